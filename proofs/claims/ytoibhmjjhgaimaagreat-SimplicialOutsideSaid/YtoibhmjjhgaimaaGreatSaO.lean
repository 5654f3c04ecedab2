/- reference 25: Least. Conditions: at most 64 vectors of at most 3 numbers of few digits. reference 23: Minus. Conditions: at most 10^6 numbers of at most 2^36 digits. reference 25: From. Conditions: at most 1000 rows and columns. reference 23: Shape. Conditions: lengths far below any machine's. reference 25: Depth. Conditions: numbers of few digits. reference 26: Contains, Depth. Conditions: numbers of few digits. reference 26: Depth. Conditions: numbers of few digits. simplicial: Contains. Conditions: numbers of few digits. The deepest rows. Conditions: none. simplicial, reference 26: Median. Conditions: numbers of few digits. reference 06: SameInts. Conditions: lengths far below any machine's. law 25: HalfspaceLeast. Conditions: none. Arguments, opened to lists: []int. Conditions: none. Arguments, opened to lists: rational numbers as they came, rows, matrices of them. Conditions: none. made: Light, LightList, LightMatrix; law 06: light, small. Conditions: none. -/
import Derived.Test.YtoibhmjjhgaimaaGreatSaN
import Derived.BigQuiet
import Derived.WalkKit
import Derived.ProofKit
import Derived.OpenShut
import Derived.ShutString
import Derived.ChangeOld
import Derived.Below
import Derived.Deep.Slices
import Derived.Deep.Fields
import Derived.ChangeSame
namespace Go.Lin
open Go.Lim Go.Rep
theorem b0j (m:Mat) {j:Nat}:∀{c:Nat},j<=c->(rN m j).2.1.length<=(rN m c).2.1.length:=by
 intro c
 induction c with
 |zero=>
      intro h;obtain rfl:j=0:=by omega
      exact Nat.le_refl _
 |succ c ih=>
  intro h;rcases Nat.lt_or_ge j (c+1)with h1|h1
  ·refine Nat.le_trans (ih (by omega)) ?_
   show _<=(a5F (rN m c) c).2.1.length
   unfold a5F;split
   ·exact Nat.le_refl _
   ·simp
  ·obtain rfl:j=c+1:=by omega
   exact Nat.le_refl _
theorem b2s {n c B k:Nat} {m:Mat} (hs:Shp n c m) (h:HB B m) (hk:(a0N m c).2.length<=k) (hB:6*(6^k*B)<=68719476736):a9w m c:=by
 rw[(b2F hs).2]at hk;refine⟨6^k*B,hB,fun j hj=>?_⟩;obtain⟨h1,h2⟩:=h.rN hs j;have hp:6^(rN m j).2.1.length*B<=6^k*B:=Nat.mul_le_mul_right _ (Nat.pow_le_pow_right (by decide) (Nat.le_trans (b0j m hj) hk));exact⟨h1.mono hp,Nat.le_trans h2 hp⟩
end Go.Lin
namespace Go.Lim
theorem c0D (n:Nat):ch n 1<=n/\ch n 2<=n*n:=by
 induction n with
 |zero=>decide
 |succ n ih=>
  obtain⟨h1,h2⟩:=ih;have e1:ch (n+1) 1=ch n 0+ch n 1:=rfl;have e2:ch (n+1) 2=ch n 1+ch n 2:=rfl;rw[a3W]at e1;have e3:(n+1)*(n+1)=n*n+2*n+1:=by rw[Nat.add_mul,Nat.mul_add];omega
  omega
end Go.Lim
namespace Go.Proofs.YtoibhmjjhgaimaaGreat
open Go.RowKit Go.Rep Go.Lim Go.Lin
theorem b4G:SliceT Tryz.prog 41 22 1 24 (.slice none 0 0):=⟨Tryz.underlying41,by kernel_rfl⟩
def b7w (w:World) (c:Nat) (z:Mat) (e:Ending) (w':World):Prop:=Ext w w'/\∃k:Nat,e= .returned (.int .i64 (k:Int))/\k<=z.length/\a0M c (a0t z) k
theorem rof (X:Nat->Bool) (w:World) (v:Int) (hX:HX X w) (h1: -9223372036854775808<=v) (h2:v<=9223372036854775807):Calls Tryz.prog 131 #[.int .i64 v] w (a1Z X w QC v):=by
 obtain⟨W,hW,hE,b0,hz⟩:=a1I w #[.bool false, .slice none 0 0, .slice none 0 0] 32;have hXW:HX (a0e X w.heap.size 1) W:=hX.boxes hz;obtain⟨b,hb⟩:∃b,w.heap.size=b:=⟨_,rfl⟩;have hbw:w.heap.size<=b:=by omega
 rw[hb]at b0 hz hXW;have h1':=hid h1;have h2':=hid h2;clear h1 h2;go_enter Tryz.func131,Tryz.ntmps131
 go_wp2_with fail
 refine(a4b (a0e X b 1) W v hXW h1'.out h2'.out).mono ?_;rintro e1 w1 ⟨hE1,u1,rfl,hu1⟩;obtain⟨s6,a6,n6,c6,d6,k6,e6,rfl⟩:=hu1.shape;have b1':=b0.ext0 hE1;go_wp2_with ((with_reducible show wpList _ _ _ (⟨_, .store _ _ _,_,_,_,_⟩::_) _ _);refine a0c a0w rfl rfl b1' rfl rfl (a2C _ _ _ _ _ _ _) ?_;intro w7 r1 r2)
 have h7:=QC.mono _ _ _ _ a0k (QC.mono _ _ _ _ (a0i r2 (by omega) (by omega)) hu1);exact bodyPost_ret (a0d rfl rfl a0w r1 rfl) rfl ⟨ExtX.box (hE.trans hE1) r2 (by omega),_,rfl,h7⟩
set_option maxRecDepth 100000 in
set_option maxHeartbeats 3200000 in
theorem a7N:∀(n:Nat) (X:Nat->Bool) (w:World) (u:Value) (z:List (List Rat)) (c B:Nat),HX X w->MV (mk X w) u z->Shp n c z->n<=64->1<=c->c<=3->BM B z->1<=B->B<=6500->
  Calls Tryz.prog 103 #[u] w (b7w w c z):=by
 intro n
 induction n using Nat.strongRecOn with
 |_ n ih=>
 intro X w u z c B hX hu hs hn hc1 hc3 hzB hB1 hB;have ih':=hid ih;clear ih;obtain⟨p,hp,hred⟩:∃p:List Nat,(p= []->a0M c (a0t z) n)/\(p≠[]->p=(a0N z c).2)/\Calls Tryz.prog 149 #[u] w (fun e w'=>Ext w w'/\∃ov po pc,e= .returned (.tuple #[ov, .slice po p.length pc, .int .i64 0])/\p.length<=pc/\Sl (a0a .i64) 1 (mk X w') po p):=by
  have hzl:=hs.1;by_cases h0:n=0
  ·subst h0
   obtain rfl:z= []:=List.eq_nil_of_length_eq_zero hzl;refine⟨[],fun _=>b2T (by omega),fun h=>absurd rfl h,(a8B X w u [] 0 0 hX hu rfl rfl rfl ?_).mono ?_⟩
   ·exact b1C (n:=0) (B:=1) ⟨rfl,fun r hr=>by simp at hr⟩ (fun i j=>by unfold ent;simp[a1p]) (by decide)
   ·rintro e w' ⟨h1,oo,co,po,pc,h2,h3,h4,h5,h6⟩
    exact⟨h1,_,po,pc,h2,h4,h6⟩
  ·obtain⟨hf,hcol⟩:=a4v hs (by omega) hc1 (by omega) (by omega)
   have hhb:=a8p hzB hB1;have hT:=b2s hs hhb (a1L hs) (by
    have h1:6^c<=6^3:=Nat.pow_le_pow_right (by decide) hc3;have h2:=Nat.mul_le_mul h1 hB;have e:6^3*6500=1404000:=by decide
    omega)
   refine⟨(a0N z c).2,fun h=>?_,fun _=>rfl,(a8B X w u z n c hX hu hf hzl hcol hT).mono ?_⟩
   ·have:=b5o hs (by omega) (by rw[h];rfl)
    rwa[hzl]at this
   ·rintro e w' ⟨h1,oo,co,po,pc,h2,h3,h4,h5,h6⟩
    rw[<-(b2F hs).2]at h2 h4 h6;exact⟨h1,_,po,pc,h2,h4,h6⟩
 obtain⟨hp2,hred⟩:=hred;have hzl:z.length=n:=hs.1;obtain⟨d,hd⟩:∃d,p.length=d:=⟨_,rfl⟩;have hd':=hid hd;have hpp:=hid (⟨hp,hp2⟩:(p= []->a0M c (a0t z) n)/\(p≠[]->p=(a0N z c).2));have hs':=hid hs;have hu0:=hu;obtain⟨ua,uca,rfl,huca,hua⟩:=hu;have hzl':=hid hzl;rw[hzl]at huca hu0 hred |-;have hpk:=hid (fun w' (h:Ext w w') po pc (h1:Sl (a0a .i64) 1 (mk X w') po p) (h2:p.length<=pc) (h3:p≠[])=>b4B X w' (.slice ua n uca) z po p pc c (hX.ext h) (mkx MV.mono hu0 h) hs.2 (by omega) h1 h2 (by rw[hp2 h3];have:=a1L hs;omega) (by rw[hp2 h3];intro x hx;obtain⟨q,hq,rfl⟩:=List.getElem_of_mem hx;exact(a0Z hs).2.1.lt q hq));rw[hd]at hred;unfold b7w;rw[hzl];have hzL:=hid hzl;clear hp hp2 hs hzl hd hua;by_cases hd0:d=0
 ·subst hd0
  have hdep:=hid (hpp.out.1 (List.eq_nil_of_length_eq_zero hd'.out));go_enter Tryz.func103,Tryz.ntmps103
  go_wp2_with fail
  refine hred.mono ?_;rintro e w1 ⟨hE1,ov,po,pc,rfl,hpc,hps⟩;clear hred;go_wp2_with fail
  go_ret
  exact⟨hE1,n,rfl,Nat.le_refl _,hdep.out⟩
 have hpne:p≠[]:=fun h=>hd0 (by rw[<-hd'.out,h];rfl);have hpe:=hpp.out.2 hpne;have hdep:=hid (fun k (h:a0M d (a0t (a1T z p)) k)=>(b2W hs'.out (k:=k) (by rw[<-hpe];rw[hd'.out];exact h)));have hZs:Shp n d (a1T z p):=by
  have:=b2V z p;rw[hs'.out.1,hd'.out]at this;exact this
 have hZB:BM B (a1T z p):=b6D hzB hB1;have hdn:d<=n:=by have:=a3o hs'.out;rw[<-hpe,hd'.out]at this;exact this
 have hd3:d<=3:=by have:=a1L hs'.out;rw[<-hpe,hd'.out]at this;omega
 have hless:=hid (fun(L:List Rat) (h:nz d (vec L))=>(by
  have:=b6d hs'.out (u:=L) (by rw[<-hpe,hd'.out];exact h);rw[<-hpe,hd'.out,hs'.out.1]at this;exact this:(onM d L (a1T z p)).length<n))
 have hrd:=hid (fun(k cnt:Nat) (hk:a0M d (a0t (a1T z p)) k) (hkc:k<=cnt) (r:Nat) (hr:d=r+1) (ht:∀I:List Nat,I.length=r->I.Pairwise (· < ·)->(∀i∈I,i<z.length)->a2c (r+1) (a0t (a1T z p)) [] cnt I)=>(by
  subst hr;have h1:(a0N z c).2.length=r+1:=by rw[<-hpe];exact hd'.out
  rw[hpe]at hk ht;exact b5p hs'.out h1 hk hkc ht:a0M c (a0t z) cnt))
 have hpk':=hid (fun w' h po pc h1 h2=>hpk.out w' h po pc h1 h2 hpne);obtain⟨Z,hZ⟩:∃Z,a1T z p=Z:=⟨_,rfl⟩;rw[hZ]at hdep hZs hZB hless hrd hpk';obtain⟨k,hk⟩:=a7l (c:=d) (by omega) (a0t Z);have hZl:Z.length=n:=hZs.1;clear hZ hpe hpne hpp hpk hs' hc1 hc3;by_cases hd1:d=1
 ·subst hd1
  have h1:=b3Y Z;rw[hZl]at h1;have hfin:=hid (hdep.out _ h1);have hcnt:=hid (fun w' (uz uo:Value) (hX':HX X w') (ha:MV (mk X w') uz Z) (hb:RV (mk X w') uo [1])=>b1B X w' uz uo Z [1] 1 B 1 hX' ha hb hZs.2 rfl (by decide) (by omega) hZB (fun q hq=>by rw[List.mem_singleton.1 hq];decide+kernel) hB1 (by decide) (by omega));have hpl:=a9U 1 [1] Z;have hnl:=a9V 1 [1] Z;rw[hZl]at hpl hnl;obtain⟨P,hP⟩:∃P,a2P 1 [1] Z=P:=⟨_,rfl⟩;obtain⟨Q,hQ⟩:∃Q,a4W 1 [1] Z=Q:=⟨_,rfl⟩;rw[hP,hQ]at hfin hcnt;rw[hP]at hpl;rw[hQ]at hnl;have hv1:Hid ((((1:Int):Rat))=1):=hid rfl;have hZl':=hid hZl;clear h1 hP hQ hdep hZs hZB hless hrd hk hd0 hZl;go_enter Tryz.func103,Tryz.ntmps103
  go_wp2_with fail
  refine hred.mono ?_;rintro e w1 ⟨hE1,ov,po,pc,rfl,hpc,hps⟩;have hpk1:=hpk'.out w1 hE1 po pc hps (by rw[hd'.out];exact hpc);rw[hd'.out]at hpk1;clear hred;go_wp2_with fail
  refine hpk1.mono ?_;rintro e w2 ⟨hE2,u2,rfl,ao2,c2,rfl,hc2,hs2⟩;rw[hZl'.out]at hc2 |-;have hX2:=hX.ext (hE1.trans hE2);go_wp2_with fail
  refine(rof X w2 1 hX2 (by decide) (by decide)).mono ?_;rintro e w3 ⟨hE3,u3,rfl,hu3⟩;obtain⟨s3,a3,n3,c3,d3,k3,e3,rfl⟩:=hu3.shape;rw[hv1.out]at hu3;have hX3:=hX2.ext hE3;have hL:=(a6q X w3 s3 a3 n3 c3 d3 k3 e3 1 32 hX3 hu3).sl QC.elem;have hEl:Ext w3 (w3.alloc (.cells #[.bool s3, .slice a3 n3 c3, .slice d3 k3 e3] 32)):=(ExtX.refl _).alloc _;have hZ4:MV (mk X (w3.alloc (.cells #[.bool s3, .slice a3 n3 c3, .slice d3 k3 e3] 32))) (.slice ao2 n c2) Z:=⟨ao2,c2,by rw[hZl'.out],by rw[hZl'.out];exact hc2,hs2.mono RV.mono (a0m (hE3.trans hEl))⟩;have hO4:RV (mk X (w3.alloc (.cells #[.bool s3, .slice a3 n3 c3, .slice d3 k3 e3] 32))) (.slice (some ⟨w3.heap.size,0,none⟩) 1 1) [1]:=⟨_,_,rfl,Nat.le_refl _,hL.qv fun q hq=>by rw[List.mem_singleton.1 hq];decide+kernel⟩;have hc4:=hcnt.out _ _ _ (hX3.ext hEl) hZ4 hO4;clear hL hu3 hs2 hZ4 hO4;go_wp2_with fail
  refine hc4.mono ?_;rintro e w5 ⟨hE5,rfl⟩;clear hc4;go_wp2_with fail
  go_ret
  exact⟨hE1.trans (hE2.trans (hE3.trans (hEl.trans hE5))),n - max P Q,by rw[show((n - max P Q:Nat):Int)=(n:Int) - max (P:Int) (Q:Int)by omega];rfl,by omega,hfin.out⟩
 obtain⟨r,rfl⟩:∃r,d=r+1:=⟨d - 1,by omega⟩;have hr1:1<=r:=by omega
 have hr2:r<=2:=by omega
 have hrn:r<=n:=by omega
 have hkn:k<=n:=by
  have:=hk.le;have e:(a0t Z).length=Z.length:=by simp[a0t]
  omega
 have hhb:=a8p hZB hB1;have hmem:=a1w n r 0;have hsb:∀s∈a0s n r 0,∀x∈s,0<=x/\x<(Z.length:Int):=fun s h x hx=>by
  have:=(hmem s h).2.1 x hx;rw[hZl];omega
 have hbnd:∀s∈a0s n r 0,Shp r (r+1) (a0B Z s)/\a1h (a0B Z s)=true/\a0l (a0B Z s)=r+1/\HB B (a0B Z s):=fun s h=>by
  have h1:=a6W hZs (hsb s h);rw[(hmem s h).1]at h1;obtain⟨h2,h3⟩:=a4v h1 (by omega) (by omega) (by omega) (by omega);exact⟨h1,h2,h3,b8E hhb (hsb s h)⟩
 have hnull:=hid (fun w' um s (h:s∈a0s n r 0) (hX':HX X w') (hm:MV (mk X w') um (a0B Z s))=>(by
  obtain⟨h1,h2,h3,h4⟩:=hbnd s h;have h6:6^r<=6^2:=Nat.pow_le_pow_right (by decide) hr2;have h7:=Nat.mul_le_mul h6 hB;exact b6G X w' um (a0B Z s) r (r+1) hX' hm h2 h1.1 h3 (b1C h1 h4 (by
   have e:6^2*6500=234000:=by decide
   omega)):Calls Tryz.prog 161 #[um] w' (b8t X w' (a0D (a0B Z s) (r+1)))))
 have hno:=hid (fun s (h:s∈a0s n r 0) (hl:(a0D (a0B Z s) (r+1)).length≠1) cnt=>(a9Y hZs (hsb s h) hl:a2c (r+1) (a0t Z) [] cnt (s.map Int.toNat)));have hyes:=hid (fun s (h:s∈a0s n r 0) (hl:(a0D (a0B Z s) (r+1)).length=1) L (hL:(a0D (a0B Z s) (r+1))[0]? =some L)=>(by
  have hL:=(List.getElem?_eq_some_iff.1 hL).2;obtain⟨h1,h2,h3⟩:=b3Z hZs (hsb s h) hl L hL;obtain⟨g1,g2,g3,g4⟩:=hbnd s h;have h5:=b2g (a6n (k:=2) g4 g1 (by have:=a3o g1;omega));have h6:BR (35^2*B) L:=by rw[<-hL];exact h5 _ (List.getElem_mem _)
  exact⟨h1,h6,hless.out L h2,fun cnt l hc hl=>b3T hk hc h2 h3 hl⟩:
  L.length=r+1/\BR (35^2*B) L/\(onM (r+1) L Z).length<n/\∀cnt l,k<=cnt->a0M (r+1) (a0t (onM (r+1) L Z)) l->
   k<=min cnt (min (a2P (r+1) L Z) (a4W (r+1) L Z)+l)/\a2c (r+1) (a0t Z) [] (min cnt (min (a2P (r+1) L Z) (a4W (r+1) L Z)+l)) (s.map Int.toNat)))
 have hdone:=hid (fun cnt (hc:k<=cnt) (h:∀s∈a0s n r 0,a2c (r+1) (a0t Z) [] cnt (s.map Int.toNat))=>(hrd.out k cnt hk hc r rfl (by
  intro I h2 h3 h4;exact a9m n h I h2 h3 (by rw[hzL.out]at h4;exact h4)):a0M c (a0t z) cnt))
 have hch:ch n r<=1000000:=by
  rcases(by omega:r=1\/r=2)with rfl|rfl
  ·have:=c0D n
   omega
  ·have:=c0D n
   have h:=Nat.mul_le_mul hn hn;omega
 have hclen:(a0s n r 0).length<=1000000:=by rw[a0Y];exact hch
 have hmeml:=hid (fun s (h:s∈a0s n r 0)=>(hmem s h).1);have hmemb:=hid (fun s (h:s∈a0s n r 0) x (hx:x∈s)=>(by have:=(hmem s h).2.1 x hx;omega:0<=x/\x<(n:Int)));have hcom:=a7M X n r;obtain⟨C,hC⟩:∃C,a0s n r 0=C:=⟨_,rfl⟩;have hcom':=hid (fun w' (hX':HX X w')=>(by
  have:=hcom w' hn hrn hch hX';unfold a4l at this;rw[hC]at this;exact this:Calls Tryz.prog 44 #[.int .i64 (n:Int), .int .i64 (r:Int)] w' (fun e w''=>Ext w' w''/\∃(oo:Option Addr) (co:Nat),e= .returned (.slice oo C.length co)/\C.length<=co/\OL (SlV (a0x .i64) 1) 1 X w'.heap.size 22 w'' oo co C)))
 rw[hC]at hnull hno hyes hdone hclen hmeml hmemb;have hrr:((r+1:Nat):Int) - 1=(r:Int):=by omega
 have hZl':=hid hZl;have hZs':=hid hZs;have hZB':=hid hZB;clear hhb hmem hsb hbnd hcom hC hdep hrd hk hless hZs hZB hZl hd0 hdn hch;go_enter Tryz.func103,Tryz.ntmps103
 go_wp2_with fail
 refine hred.mono ?_;rintro e w1 ⟨hE1,ov,po,pc,rfl,hpc,hps⟩;have hpk1:=hpk'.out w1 hE1 po pc hps (by rw[hd'.out];exact hpc);rw[hd'.out]at hpk1;clear hred;have hd1':(((r+1:Nat):Int)==1)=false:=a1S (by omega);have hd0':(((r+1:Nat):Int)==0)=false:=a1S (by omega);go_wp2_with fail
 refine hpk1.mono ?_;rintro e w2 ⟨hE2,u2,rfl,za,zc,rfl,hzc,hzs⟩;rw[hZl'.out]at hzc |-;have hhz:Hd za n:=by have:=hzs.hd;rw[hZl'.out]at this;exact this
 have hE12:=hE1.trans hE2;have hX2:=hX.ext hE12;clear hpk1 hE1 hE2 hps hpc;go_wp2_with fail
 refine(hcom'.out w2 hX2).mono ?_;rintro e w3 ⟨hE3,co,cc,rfl,hcc,hCO⟩;have hsc:=hCO.sl (SlV.elem (a0x.elem .i64));have hhc:=hsc.hd;have hE13:=hE12.trans hE3;have hX3:=hX2.ext hE3;have hz3:=hzs.mono RV.mono (a0m hE3);obtain⟨K,hK⟩:∃K,C.length=K:=⟨_,rfl⟩;have hK':=hid hK;rw[hK]at hcc hhc hclen |-;clear hCO hE3 hX2 hE12 hzs hcom' hK;go_wp2_with fail
 go_loopw [9,61] (fun a cx wr=>∃(q cnt:Nat),cx= .int .i64 q/\q<=K/\a= .int .i64 (cnt:Int)/\k<=cnt/\cnt<=n/\Hid (∀s∈C.take q,a2c (r+1) (a0t Z) [] cnt (s.map Int.toNat))/\Ext w3 wr) (fun _ cx _=>K - (intOf cx).toNat)
 case atStart=>exact⟨0,n,rfl,Nat.zero_le _,rfl,hkn,Nat.le_refl _,hid (fun s hs=>by simp at hs),ExtX.refl _⟩
 case round=>
  obtain⟨q,cnt,rfl,hq,rfl,hkc,hcn,hT,hE⟩:=hrel;have hXr:=hX3.ext hE;by_cases hlt:q<K
  ·have hqC:q<C.length:=by rw[hK'.out];exact hlt
   obtain⟨so,sc,f37,h3',s3⟩:=hsc.slice q hqC;have f3:=hE.cell f37;have hsm:C[q]∈C:=List.getElem_mem _;have hnu:=hid (fun w' um=>hnull.out w' um C[q] hsm);have hno1:=hid (hno.out C[q] hsm);have hye1:=hid (hyes.out C[q] hsm);have hsl:=hid (hmeml.out C[q] hsm);have hsbb:=hid (hmemb.out C[q] hsm);have hTn:=hid (fun cnt' (hle:cnt'<=cnt) (h:a2c (r+1) (a0t Z) [] cnt' (C[q].map Int.toNat))=>(by
    intro s hs;rw[<-List.take_append_getElem hqC]at hs;rcases List.mem_append.1 hs with h2|h2
    ·exact(hT.out s h2).le hle
    ·rw[List.mem_singleton.1 h2];exact h:∀s∈C.take (q+1),a2c (r+1) (a0t Z) [] cnt' (s.map Int.toNat)))
   have hsr:=s3.mono (a0x.mono _) (a0m hE);have hhs:=hsr.hd;obtain⟨s,hs⟩:∃s,C[q]=s:=⟨_,rfl⟩;rw[hs]at f3 h3' hnu hno1 hsl hsbb hTn hhs hsr;have hye2:Hid (∀(hl:(a0D (a0B Z s) (r+1)).length=1) L (_:(a0D (a0B Z s) (r+1))[0]? =some L),L.length=r+1/\BR (35^2*B) L/\(onM (r+1) L Z).length<n/\∀cnt l,k<=cnt->a0M (r+1) (a0t (onM (r+1) L Z)) l->
    k<=min cnt (min (a2P (r+1) L Z) (a4W (r+1) L Z)+l)/\a2c (r+1) (a0t Z) [] (min cnt (min (a2P (r+1) L Z) (a4W (r+1) L Z)+l)) (s.map Int.toNat)):=by subst hs;exact hye1
   obtain⟨M,hM⟩:∃M,a0B Z s=M:=⟨_,rfl⟩;have hMl:M.length=s.length:=by rw[<-hM];exact a1M Z s
   have hMi:=hid (show∀j (h1:j<M.length) (h2:j<s.length) (i:Nat) (h3:i<Z.length),s[j]=(i:Int)->M[j]=Z[i]from fun j h1 h2 i h3 h=>by subst hM;exact a6T h1 h2 h3 h);rw[hM]at hnu hno1 hye2;rw[hsl.out]at f3 h3' hhs hMl;have hMl':=hid hMl;have hMl1:M.length<=r:=by omega
   have hMl2:r<=M.length:=by omega
   clear hM hMl hs s3 f37 hye1;obtain⟨wo,hwo⟩:∃wo,wo=wr:=⟨_,rfl⟩;subst hwo;go_wp2_with (with_reducible refine a0n b4G (by omega) (by assumption) ?_)
   go_loopw [12,67] (fun o cx wx=>∃(j:Nat) (mo:Option Addr) (mc:Nat),cx= .int .i64 j/\o= .slice mo j mc/\j<=r/\OL RV 1 X wo.heap.size 45 wx mo mc (M.take j)/\Ext wo wx) (fun _ cx _=>r - (intOf cx).toNat)
   case atStart=>exact⟨0,none,0,rfl,rfl,Nat.zero_le _,OL.nil _ _ _ _ _ _,ExtX.refl _⟩
   case round=>
    obtain⟨j,mo,mc,rfl,rfl,hj,hO,hEj⟩:=hrel;have hXj:HX X wr:=hXr.ext hEj;have hbj:=hEj.size;clear f3;by_cases hlj:j<r
    ·have hjs:j<s.length:=by rw[hsl.out];exact hlj
     have hjM:j<M.length:=by omega
     have htk:=hid (a0S M j hjM);have hln:=hid (a1e (l:=M) (i:=j) (by omega));have hcj:=(hsr.mono (a0x.mono _) (a0m hEj)).int j hjs;obtain⟨h1,h2⟩:=hsbb.out s[j] (List.getElem_mem _);obtain⟨i,hi⟩:=Int.eq_ofNat_of_zero_le h1;have hin:i<n:=by omega
     have hiZ:i<Z.length:=by rw[hZl'.out];exact hin
     have hMq:=hMi.out j hjM hjs i hiZ hi;rw[hi]at hcj;have hzr:Sl RV 1 (mk (un X mo) wr) za Z:=(hz3.mono RV.mono (a0m hE)).old RV.mono hEj (fun j hj=>hO.ob_lt hj);obtain⟨a1,c1,hX1,hc1,hcl1,hq1⟩:=hzr.row i hiZ;have k00:=hc1.out noY wr (ExtX.refl _) rfl;obtain⟨x,hx⟩:∃x,Z[i]=x:=⟨_,rfl⟩;rw[hx]at k00 hcl1 hq1 hMq;rw[hMq]at htk;have hRV:RV (mk (un X mo) wr) (.slice a1 x.length c1) x:=⟨a1,c1,rfl,hcl1,hq1⟩;obtain⟨dd,hdd⟩:∃dd,x.length=dd:=⟨_,rfl⟩;rw[hdd]at k00 hRV;clear hx hc1 hcl1 hq1 hMq hdd h1 h2 hi;go_wp2_with (first
      |(with_reducible refine a0n a1G (by omega) (by assumption) ?_)
      |(with_reducible refine a0n a0o (by omega) (by assumption) ?_)
      |(at_builtin;refine a0r (l:=M.take j) a0o rfl RV.elem hbj hXj j hln.out rfl rfl hO (.slice a1 dd c1) x rfl hRV (by omega) (by omega) ?_;intro oo2 co2 w7 hO7 hE7 hor))
     have hE8:=hEj.own hO (Nat.le_refl _) hE7;rw[htk.out]at hO7;go_roundw
     case rel=>exact⟨j+1,oo2,co2,by go_num,by go_num,by omega,hO7,hE8⟩
     case measure=>simp[intOf];omega
    ·have hjr:r=j:=by omega
     subst hjr;rw[List.take_of_length_le (by omega)]at hO;have hmc:=hO.lenCap;have hnc:=hnu.out wr (.slice mo r mc) hXj ⟨mo,mc,by rw[hMl'.out],hmc,hO.sl RV.elem⟩;have hEw:=hE.trans hEj;clear hnu hlj hO;obtain⟨N,hN⟩:∃N,a0D M (r+1)=N:=⟨_,rfl⟩;rw[hN]at hnc hno1 hye2;obtain⟨nl,hnl⟩:∃nl,N.length=nl:=⟨_,rfl⟩;have hnl':=hid hnl;clear hN hnl;go_wp2_with fail
     refine hnc.mono ?_;rintro e w5 ⟨hE5,u5,rfl,no,nc,rfl,hncc,hns⟩;have hhn:=hns.hd;rw[hnl'.out]at hncc hhn |-;have hE35:=hEw.trans hE5;have hX5:=hX3.ext hE35;clear hnc;by_cases hl1:nl=1
     rotate_left 1
     ·have d1:((nl:Int) !=1)=true:=a5C (by omega)
      have hTq:=hid (hTn.out cnt (Nat.le_refl _) (hno1.out (by rw[hnl'.out];exact hl1) cnt));go_wp2_with fail
      go_roundw
      case rel=>exact⟨q+1,cnt,by go_num,by omega,rfl,hkc,hcn,hTq,hE35⟩
      case measure=>simp[intOf];omega
     ·subst hl1
      obtain⟨hLl,hLB,hLn,hrnd⟩:=hye2.out hnl'.out (N[0]'(by rw[hnl'.out];decide)) (List.getElem?_eq_getElem _);have h0N:0<N.length:=by rw[hnl'.out];decide
      obtain⟨a1,c1,hX1,hc1,hcl1,hq1⟩:=hns.row 0 h0N;have k00:=hc1.out noY w5 (ExtX.refl _) rfl;have hB2:35^2*B<=7962500:=by
       have e:35^2=1225:=by decide
       rw[e];omega
      have hLC:BR 7962500 N[0]:=fun q hq=>Nat.le_trans (hLB q hq) hB2;have hLRV:RV (mk X w5) (.slice a1 N[0].length c1) N[0]:=⟨a1,c1,rfl,hcl1,hq1.qv fun q hq=>Nat.le_trans (hLC q hq) (by decide)⟩;obtain⟨L,hL⟩:∃L,N[0]=L:=⟨_,rfl⟩;rw[hL]at hLl hLn hrnd k00 hLC hLRV;rw[hLl]at k00 hLRV;have hz5:MV (mk X w5) (.slice za n zc) Z:=⟨za,zc,by rw[hZl'.out],by rw[hZl'.out];exact hzc,hz3.mono RV.mono (a0m hE35)⟩;have hcn5:=b1B X w5 (.slice za n zc) (.slice a1 (r+1) c1) Z L (r+1) B 7962500 hX5 hz5 hLRV hZs'.out.2 hLl (by omega) (by rw[hZl'.out];omega) hZB'.out hLC hB1 (by decide) (by omega);have hPl:=a9U (r+1) L Z;have hQl:=a9V (r+1) L Z;rw[hZl'.out]at hPl hQl;obtain⟨P,hP⟩:∃P,a2P (r+1) L Z=P:=⟨_,rfl⟩;obtain⟨Q,hQ⟩:∃Q,a4W (r+1) L Z=Q:=⟨_,rfl⟩;rw[hP]at hPl hcn5 hrnd;rw[hQ]at hQl hcn5 hrnd;have hrnd':=hid hrnd;have hLl':=hid hLl;have hLC':=hid hLC;have hS0:Hid (∀Y W',ExtX Y w5 W'->Y (adr no 0).block=false->W'.cell? (adr no 0)=some (.slice a1 (r+1) c1)):=hid fun Y W' h1 h2=>by
       have:=hc1.out Y W' h1 h2;rw[hL,hLl'.out]at this;exact this
      clear hP hQ hL hLB hq1 hz5 hnl' hno1 hrnd hLl hLC hcl1 hc1 h0N hye2;go_wp2_with (with_reducible refine a0n a0o (by omega) (by assumption) ?_)
      refine hcn5.mono ?_;rintro e w6 ⟨hE6,rfl⟩;have hE36:=hE35.trans hE6;have hLR6:=mkx RV.mono hLRV hE6;clear hcn5 k00 hLRV;go_wp2_with fail
      go_loopw [19,97] (fun o cx wx=>∃(i:Nat) (fo:Option Addr) (fc:Nat) (F:List (List Rat)),cx= .int .i64 i/\i<=n/\o= .slice fo F.length fc/\F.length<=i/\Hid (F=onM (r+1) L (Z.take i))/\OL RV 1 X w6.heap.size 45 wx fo fc F/\Ext w6 wx) (fun _ cx _=>n - (intOf cx).toNat)
      case atStart=>exact⟨0,none,0,[],rfl,Nat.zero_le _,rfl,Nat.zero_le _,hid rfl,OL.nil _ _ _ _ _ _,ExtX.refl _⟩
      case round=>
       obtain⟨i,fo,fc,F,rfl,hi,rfl,hFl,hFe,hO,hEi⟩:=hrel;have hE3i:=hE36.trans hEi;have hXi:=hX3.ext hE3i;have hbi:=hEi.size;by_cases hli:i<n
       ·have hiZ:i<Z.length:=by rw[hZl'.out];exact hli
        have hzr:Sl RV 1 (mk (un X fo) wr) za Z:=(hz3.mono RV.mono (a0m hE36)).old RV.mono hEi (fun j hj=>hO.ob_lt hj);obtain⟨a2,c2,hX2,hc2,hcl2,hq2⟩:=hzr.row i hiZ;have k00:=hc2.out noY wr (ExtX.refl _) rfl;have k01:=hS0.out noY wr (hE6.trans hEi) rfl;have hvl:=hZs'.out.2 Z[i] (List.getElem_mem _);have hvB:=hZB'.out Z[i] (List.getElem_mem _);have hos:=hid (b1p (r+1) L hiZ);have hdv:=hid (a9S (u:=L) (z:=Z[i]) hLl'.out);have hdb:=a4S (l:=L) (m:=Z[i]) hLC'.out hvB (by decide) hB1 (by
         rw[hLl'.out];have:(r+1)*(7962500+B+1)<=3*(7962500+B+1):=Nat.mul_le_mul_right _ (by omega);omega)
        have hvU:RV (mk (un X fo) wr) (.slice a2 Z[i].length c2) Z[i]:=⟨a2,c2,rfl,hcl2,hq2⟩;have hvX:RV (mk X wr) (.slice a2 Z[i].length c2) Z[i]:=RV.mono _ _ _ _ (a1U (X:=X) fun k _ hk=>a0v hk) hvU;have hdot:=a7L X wr (.slice a1 (r+1) c1) (.slice a2 Z[i].length c2) L Z[i] hXi (mkx RV.mono hLR6 hEi) hvX (by rw[hLl'.out];omega) (by rw[hLl'.out];exact hvl) hdb.1 hdb.2;have hdq:Hid (Go.Lim.hq (b0X L Z[i])<=68719476736):=hid (hdb.1 _ (Nat.le_refl _));rw[<-hdv.out]at hos;rw[hvl]at k00 hdot hvU;obtain⟨D,hD⟩:∃D,b0X L Z[i]=D:=⟨_,rfl⟩;obtain⟨v,hv⟩:∃v,Z[i]=v:=⟨_,rfl⟩;rw[hD]at hos hdot hdq;rw[hv]at hos hvU;clear hc2 hvl hvB hdb hD hdv hcl2 hq2 hv hvX;have hfl:Hid (F.length=F.length):=hid rfl;have hcase:D.num.sign=0\/D.num.sign≠0:=by omega
        rcases hcase with hsg|hsg
        ·have hD0:D=0:=by
                     rcases a1y D with h|h|h
                     ·omega
                     ·exact h.1
                     ·omega
         have hF2:Hid (F++[v]=onM (r+1) L (Z.take (i+1))):=hid (by rw[hos.out,if_pos hD0,<-hFe.out]);have hsg':=hid hsg;clear hsg hD0 hos;go_wp2_with (with_reducible refine a0n a0o (by omega) (by assumption) ?_)
         refine hdot.mono ?_;rintro e w7 ⟨hE7,u7,rfl,hu7⟩;go_wp2_with fail
         refine(a6f X w7 u7 D (hXi.ext hE7) (hu7.qv hdq.out)).mono ?_;rintro e w8 ⟨hE8,rfl⟩;rw[hsg'.out];have hE78:=hE7.trans hE8;have hO8:=hO.ext0 RV.elem hE78;have hX8:=hXi.ext hE78;have hv8:=mkx RV.mono hvU hE78;have hb8:=(hEi.trans hE78).size;clear k00 k01 hdot;go_wp2_with (at_builtin;refine a0r (l:=F) a0o rfl RV.elem hb8 hX8 F.length rfl rfl rfl hO8 (.slice a2 (r+1) c2) v rfl hv8 (by omega) (by omega) ?_;intro oo2 co2 w9 hO9 hE9 hor)
         have hE10:=(hEi.trans hE78).own hO8 (Nat.le_refl _) hE9;have hl9:(F++[v]).length=F.length+1:=by simp
         go_roundw
         case rel=>exact⟨i+1,oo2,co2,F++[v],by go_num,by omega,by rw[hl9],by omega,hF2,hO9,hE10⟩
         case measure=>simp[intOf];omega
        ·have hD0:¬D=0:=fun h=>hsg (by rw[h];rfl)
         have hF2:Hid (F=onM (r+1) L (Z.take (i+1))):=hid (by rw[hos.out,if_neg hD0,<-hFe.out,List.append_nil]);have hsg':(D.num.sign==0)=false:=a1S hsg;clear hsg hD0 hos;go_wp2_with (with_reducible refine a0n a0o (by omega) (by assumption) ?_)
         refine hdot.mono ?_;rintro e w7 ⟨hE7,u7,rfl,hu7⟩;go_wp2_with fail
         refine(a6f X w7 u7 D (hXi.ext hE7) (hu7.qv hdq.out)).mono ?_;rintro e w8 ⟨hE8,rfl⟩;have hE78:=hE7.trans hE8;have hO8:=hO.ext0 RV.elem hE78;have hE10:=hEi.trans hE78;clear k00 k01 hdot;go_wp2_with fail
         go_roundw
         case rel=>exact⟨i+1,fo,fc,F,by go_num,by omega,rfl,by omega,hF2,hO8,hE10⟩
         case measure=>simp[intOf];omega
       ·have hin:i=n:=by omega
        subst hin;have hF:F=onM (r+1) L Z:=by rw[hFe.out,List.take_of_length_le (by rw[hZl'.out];exact Nat.le_refl _)]
        have hFs:Shp F.length (r+1) F:=⟨rfl,fun x hx=>hZs'.out.2 x (by rw[hF]at hx;exact a9W _ _ _ x hx)⟩;have hFn:F.length<i:=by rw[hF];exact hLn
        have hFB:BM B F:=BM.sub hZB'.out fun x hx=>by rw[hF]at hx;exact a9W _ _ _ x hx
        have hrec:=ih'.out F.length hFn X wr (.slice fo F.length fc) F (r+1) B hXi ⟨fo,fc,rfl,hO.lenCap,hO.sl RV.elem⟩ hFs (by omega) (by omega) hd3 hFB hB1 hB;have hrn2:=hid (fun l (h:a0M (r+1) (a0t F) l)=>hrnd'.out cnt l hkc (by rw[<-hF];exact h));clear hF hFs hFB hFe hO hrnd';go_wp2_with fail
        refine hrec.mono ?_;rintro e w7 ⟨hE7,l,rfl,hll,hdl⟩;obtain⟨g1,g2⟩:=hrn2.out l hdl;have hTq:=hid (hTn.out _ (by omega) g2);have hE9:=hE3i.trans hE7;have hwr:IntKind.i64.wrap (min (P:Int) (Q:Int)+(l:Int))=((min P Q+l:Nat):Int):=by rw[IntWalk.i64_in _ (by omega)];omega
        clear hrec hdl hrn2;go_wp2_with fail
        go_roundw
        case rel=>exact⟨q+1,min cnt (min P Q+l),by go_num,by omega,by rw[show((min cnt (min P Q+l):Nat):Int)=min (cnt:Int) ((min P Q+l:Nat):Int)by omega];rfl,g1,by omega,hTq,hE9⟩
        case measure=>simp[intOf];omega
  ·have hqK:q=K:=by omega
   subst hqK;have hfin:=hid (hdone.out cnt hkc (by have:=hT.out;rwa[List.take_of_length_le (by rw[hK'.out];exact Nat.le_refl _)]at this));go_wp2_with fail
   go_ret
   exact⟨hE13.trans hE,cnt,rfl,hcn,hfin.out⟩
set_option maxRecDepth 100000 in
theorem b6K (X:Nat->Bool) (w:World) (u v:Value) (l m:List Rat) (hX:HX X w) (hu:RV (mk X w) u l) (hv:RV (mk X w) v m) (hl:l.length<=1000000) (hml:m.length=l.length):Calls Tryz.prog 132 #[u,v] w (a1Z X w RC (List.zipWith (· - ·) l m)):=by
 obtain⟨ao,ca,rfl,hca,hsa⟩:=hu;have hha:=hsa.hd;obtain⟨bo,cb,rfl,hcb,hsb⟩:=hv;have hhb:=hsb.hd;have hml1:m.length<=l.length:=by omega
 have hml2:l.length<=m.length:=by omega
 obtain⟨L,hL⟩:∃L,List.zipWith (· - ·) l m=L:=⟨_,rfl⟩;have hLl:L.length=l.length:=by rw[<-hL];simp;omega
 have hLi:=hid (show∀i (hi:i<l.length) (hj:i<m.length) (hi':i<L.length),L[i]=l[i] - m[i]from fun i hi hj hi'=>by subst hL;simp);rw[hL];have hLl1:L.length<=l.length:=by omega
 have hLl2:l.length<=L.length:=by omega
 have hLl':=hid hLl;clear hL hml hLl;go_enter Tryz.func132,Tryz.ntmps132
 go_wp2_with fail
 go_loopw [5,9] (fun o cc wr=>∃(i:Nat) (oo:Option Addr) (co:Nat),cc= .int .i64 i/\o= .slice oo i co/\i<=l.length/\OL QC 3 X w.heap.size 32 wr oo co (L.take i)/\Ext w wr) (fun _ cc _=>l.length - (intOf cc).toNat)
 case atStart=>exact⟨0,none,0,rfl,rfl,Nat.zero_le _,OL.nil _ _ _ _ _ _,ExtX.refl _⟩
 case round=>
  obtain⟨i,oo,co,rfl,rfl,hi,hO,hE⟩:=hrel;have hXr:HX X wr:=hX.ext hE;have hXu:HX (un X oo) wr:=hO.unX hXr;have hbase:=hE.size;by_cases hlt:i<l.length
  ·have hsr:Sl QV 3 (mk (un X oo) wr) ao l:=hsa.old QV.mono hE (fun j hj=>hO.ob_lt hj)
   have hltL:i<L.length:=by omega
   have htk:=hid (a0S L i hltL);have hln:=hid (a1e (l:=L) (i:=i) (by omega));have hltm:i<m.length:=by omega
   have hsr2:Sl QV 3 (mk (un X oo) wr) bo m:=hsb.old QV.mono hE (fun j hj=>hO.ob_lt hj);obtain⟨g2,o2,s2,a2,n2,c2,d2,k2,e2,hg2,hX2,hc2,hq2⟩:=hsr2.rat QV.shaped i hltm;obtain⟨g1,o1,s1,a1,n1,c1,d1,k1,e1,hg1,hX1,hc1,hq1⟩:=hsr.rat QV.shaped i hlt;have hob1:=(a0P hX1).2;have hobb:=(a0P hX2).2;have i2:∀W,(Instr.indexAt 45 (.slice bo m.length cb) (.int .i64 (i:Int))).run Tryz.prog W= .ok (.pointer (some ⟨g2,o2,none⟩)) W:=by rw[<-hg2];exact a0h a0J bo m.length cb .i64 i hhb (by omega)
   have i1:∀W,(Instr.indexAt 45 (.slice ao l.length ca) (.int .i64 (i:Int))).run Tryz.prog W= .ok (.pointer (some ⟨g1,o1,none⟩)) W:=by rw[<-hg1];exact a0h a0J ao l.length ca .i64 i hha (by omega)
   have hEd:Ext wr wr.drew:=(ExtX.refl wr).drew;have hS:Hid (∀Y W',ExtX Y wr.drew W'->Y g1=false->Y g2=false->W'.cell? ⟨g1,o1,none⟩=some (.bool s1)/\W'.cell? ⟨g1,o1+1,none⟩=some (.slice a1 n1 c1)/\W'.cell? ⟨g1,o1+2,none⟩=some (.slice d1 k1 e1)/\W'.cell? ⟨g2,o2,none⟩=some (.bool s2)/\W'.cell? ⟨g2,o2+1,none⟩=some (.slice a2 n2 c2)/\W'.cell? ⟨g2,o2+2,none⟩=some (.slice d2 k2 e2)):=hid fun Y W' h hg hb=>by
    have p1:=hc1.out Y W' ((ExtX.of hEd).trans h) hg;have p2:=hc2.out Y W' ((ExtX.of hEd).trans h) hb;exact⟨p1.1,p1.2.1,p1.2.2,p2.1,p2.2.1,p2.2.2⟩
   obtain⟨k00,k01,k02,k10,k11,k12⟩:=hS.out noY wr.drew (ExtX.refl _) rfl rfl;have hxd:QV (mk (un X oo) wr.drew) (.agg #[.bool s1, .slice a1 n1 c1, .slice d1 k1 e1]) l[i]:=hq1;have hvd:QV (mk (un X oo) wr.drew) (.agg #[.bool s2, .slice a2 n2 c2, .slice d2 k2 e2]) m[i]:=hq2;have hXd:HX (un X oo) wr.drew:=hXu;have hyi:=hLi.out i hlt hltm hltL;rw[hyi]at htk;clear hc1 hg1 hq1 hc2 hg2 hq2;go_wp2_with fail
   go_region_held3 (fun w'=>w'.cell? ⟨g1,o1,none⟩=some (.bool s1)/\w'.cell? ⟨g1,o1+1,none⟩=some (.slice a1 n1 c1)/\w'.cell? ⟨g1,o1+2,none⟩=some (.slice d1 k1 e1)/\w'.cell? ⟨g2,o2,none⟩=some (.bool s2)/\w'.cell? ⟨g2,o2+1,none⟩=some (.slice a2 n2 c2)/\w'.cell? ⟨g2,o2+2,none⟩=some (.slice d2 k2 e2))
    (first|exact hS.out noY _ t1 rfl rfl|exact hS.out noY _ (ExtX.alloc t1 _) rfl rfl|exact hS.out (ob oo) _ ((ExtX.of t1).trans hE7) hob1 hobb|go_keep)
    (first|(go_at_call 86;(with_reducible refine(c0c (un X oo) wr.drew _ _ _ _ hXd hxd hvd).mono ?_);rintro ee w6 ⟨t1,u6,rfl,hu6⟩;obtain⟨s6,a6,n6,c6,d6,k6,e6,rfl⟩:=hu6.shape;have hO6:=hO.ext0 QC.elem (hEd.trans t1);have hb6:=(hEd.trans t1).size;have hX6:=hXr.ext (hEd.trans t1))|(refine a1J (l:=L.take i) rfl (by rfl) a0J rfl QC.elem (by omega) hX6 i hln.out rfl rfl hO6 (.agg #[.bool s6, .slice a6 n6 c6, .slice d6 k6 e6]) (l[i] - m[i]) rfl hu6 (by omega) (by omega) ?_;intro oo2 co2 w7 hO7 hE7 hor))
   have hE8:=(hE.trans (hEd.trans t1)).own hO6 (Nat.le_refl _) hE7;rw[htk.out]at hO7;clear k00 k01 k02 k10 k11 k12;go_wp2_with fail
   go_roundw
   case rel=>exact⟨i+1,oo2,co2,by go_num,by go_num,by omega,hO7,hE8⟩
   case measure=>simp[intOf];omega
  ·have hil:i=l.length:=by omega
   subst hil;rw[List.take_of_length_le (by omega)]at hO;have hc:=hO.lenCap;have hs:=hO.sl QC.elem;go_wp2_with fail
   go_ret
   exact⟨hE,_,rfl,oo,co,by rw[hLl'.out];rfl,hc,hs⟩
set_option maxRecDepth 100000 in
theorem b4H (X:Nat->Bool) (w:World) (u v:Value) (p:List (List Rat)) (x:List Rat) (c:Nat) (hX:HX X w) (hu:MV (mk X w) u p) (hv:RV (mk X w) v x) (hsh:∀r∈p,r.length=c) (hx:x.length=c) (hc:c<=1000) (hp:p.length<=1000):Calls Tryz.prog 104 #[u,v] w (a1Z X w MC (a1a c p x)):=by
 obtain⟨M,hM⟩:∃M,a1a c p x=M:=⟨_,rfl⟩;obtain⟨n,hn⟩:∃n,p.length=n:=⟨_,rfl⟩;have hMl:Hid (M.length=n):=hid (by rw[<-hM,<-hn];simp[a1a]);have hMr:Hid (∀j (hj:j<p.length) (h:j<M.length),M[j]=List.zipWith (· - ·) p[j] x):=hid fun j hj h=>by subst hM;exact b0L hsh hx j hj h
 have hMl2:M.length<=n:=by rw[hMl.out];exact Nat.le_refl _
 have hMl3:n<=M.length:=by rw[hMl.out];exact Nat.le_refl _
 obtain⟨ua,uca,rfl,huca,hua⟩:=hu;have hhu:=hua.hd;obtain⟨va,vca,rfl,hvca,hva⟩:=hv;have hn':=hid hn;have hsh':=hid hsh;have hx':=hid hx;rw[hM];rw[hn]at hp huca hhu |-;clear hM hn hsh hx;go_enter Tryz.func104,Tryz.ntmps104
 go_wp2_with fail
 go_loopw [5,10] (fun o cc wr=>∃(i:Nat) (oo:Option Addr) (co:Nat),cc= .int .i64 i/\o= .slice oo i co/\i<=n/\OL RC 1 X w.heap.size 45 wr oo co (M.take i)/\Ext w wr) (fun _ cc _=>n - (intOf cc).toNat)
 case atStart=>exact⟨0,none,0,rfl,rfl,Nat.zero_le _,OL.nil _ _ _ _ _ _,ExtX.refl _⟩
 case round=>
  obtain⟨i,oo,co,rfl,rfl,hi,hO,hE⟩:=hrel;have hXr:HX X wr:=hX.ext hE;have hXu:HX (un X oo) wr:=hO.unX hXr;have hbase:=hE.size;by_cases hlt:i<n
  ·have him:i<p.length:=by rw[hn'.out];exact hlt
   have hltM:i<M.length:=by omega
   have htk:=hid (a0S M i hltM);have hln:=hid (a1e (l:=M) (i:=i) (by omega));have hRd:=hMr.out i him hltM;have hsr:Sl RV 1 (mk (un X oo) wr) ua p:=hua.old RV.mono hE (fun j hj=>hO.ob_lt hj);have hvr:RV (mk (un X oo) wr) (.slice va x.length vca) x:=a7B RV.mono ⟨va,vca,rfl,hvca,hva⟩ hE (fun j hj=>hO.ob_lt hj);obtain⟨a1,c1,hX1,hc1,hcl1,hq1⟩:=hsr.row i him;have k00:=hc1.out noY wr (ExtX.refl _) rfl;have hrl:=hid (hsh'.out p[i] (List.getElem_mem _));have hmi:=b6K (un X oo) wr _ _ p[i] x hXu ⟨a1,c1,rfl,hcl1,hq1⟩ hvr (by rw[hrl.out];omega) (by rw[hrl.out,hx'.out]);rw[<-hRd]at hmi;obtain⟨R,hR⟩:∃R,M[i]=R:=⟨_,rfl⟩;rw[hR]at hmi htk;clear hR hRd hc1;go_wp2_with (with_reducible refine a0n a0o (by omega) (by assumption) ?_)
   refine hmi.mono ?_;rintro e w6 ⟨hE6,u6,rfl,ro,cr,rfl,hcr,hsR⟩;have hRC:RC (mk (un X oo) w6) (.slice ro R.length cr) R:=⟨ro,cr,rfl,hcr,hsR⟩;obtain⟨k,hk⟩:∃k,R.length=k:=⟨_,rfl⟩;rw[hk]at hRC |-;have hO6:=hO.ext0 RC.elem hE6;have hb6:=hE6.size;clear k00;go_wp2_with (at_builtin;refine a0r (l:=M.take i) a0o rfl RC.elem (by omega) (hXr.ext hE6) i hln.out rfl rfl hO6 (.slice ro k cr) R rfl hRC (by omega) (by omega) ?_;intro oo2 co2 w7 hO7 hE7 hor)
   have hE8:=(hE.trans hE6).own hO6 (Nat.le_refl _) hE7;rw[htk.out]at hO7;go_roundw
   case rel=>exact⟨i+1,oo2,co2,by go_num,by go_num,by omega,hO7,hE8⟩
   case measure=>simp[intOf];omega
  ·have hil:i=n:=by omega
   subst hil;rw[List.take_of_length_le (by omega)]at hO;have hc:=hO.lenCap;have hs:=hO.sl RC.elem;go_wp2_with fail
   go_ret
   exact⟨hE,_,rfl,oo,co,by rw[hMl.out];rfl,hc,hs⟩
def b4I (w:World) (m:List (List Rat)) (e:Ending) (w':World):Prop:=Ext w w'/\∃a b:Nat,e= .returned (.tuple #[.int .i64 (a:Int), .int .i64 (b:Int), .bool (a2k m)])/\(a2k m=true->a=m.length/\b=a0l m)
theorem b1D {α:Type} {m:List (List α)} (h:m.length<1\/64<m.length):a2k m=false:=by
 cases hp:a2k m
 ·rfl
 ·have:=a0L.1 hp;omega
theorem b6L {α:Type} {m:List (List α)} (i:Nat) (hi:i<m.length) (h:m[i].length≠a0l m):a2k m=false:=by
 cases hp:a2k m
 ·rfl
 ·exact absurd ((a0L.1 hp).2.2.2.2 i hi) h
theorem b6M {α:Type} {m:List (List α)} (h:a0l m<1\/3<a0l m):a2k m=false:=by
 cases hp:a2k m
 ·rfl
 ·have:=a0L.1 hp;omega
set_option maxRecDepth 100000 in
theorem a4y {R:Mem->Value->Rat->Prop} (_hR:a4N R) (X:Nat->Bool) (w:World) (u:Value) (m:List (List Rat)) (hu:SlV (SlV R 3) 1 (mk X w) u m) (hl:m.length<=1099511627776):Calls Tryz.prog 20 #[u] w (b4I w m):=by
 obtain⟨ao,ca,rfl,hca,hsa⟩:=hu;have hha:=hsa.hd;by_cases h1:m.length<1
 ·have d1:(m.length:Int)<1:=by omega
  have hv:=hid (b1D (m:=m) (.inl h1));go_enter Tryz.func20,Tryz.ntmps20
  go_wp2_with fail
  go_ret3
  exact⟨ExtX.refl _,0,0,by rw[hv.out];rfl,fun h=>by rw[hv.out]at h;simp at h⟩
 by_cases h2:64<m.length
 ·have d1:¬(m.length:Int)<1:=by omega
  have d2:(64:Int)<(m.length:Int):=by omega
  have hv:=hid (b1D (m:=m) (.inr h2));go_enter Tryz.func20,Tryz.ntmps20
  go_wp2_with fail
  go_ret3
  exact⟨ExtX.refl _,0,0,by rw[hv.out];rfl,fun h=>by rw[hv.out]at h;simp at h⟩
 have d1:¬(m.length:Int)<1:=by omega
 have d2:¬(64:Int)<(m.length:Int):=by omega
 have h0:0<m.length:=by omega
 obtain⟨n,hn⟩:∃n,m.length=n:=⟨_,rfl⟩;have hn':=hid hn;obtain⟨a2,c2,hX2,hc2,hcl2,hq2⟩:=hsa.row 0 h0;have k10:=hc2.out noY w (ExtX.refl _) rfl;have hcol:=a2g h0;rw[<-hcol]at k10;have hno2:=hid (fun i hi h=>b6L (m:=m) i hi h);have hno3:=hid (fun h=>b6M (m:=m) h);have hyes:Hid ((∀q,q<n->∀hq:q<m.length,m[q].length=a0l m)->1<=a0l m->a0l m<=3->a2k m=true):=hid fun h3 h4 h5=>a0L.2 ⟨by omega,by omega,h4,h5,fun i hi=>h3 i (by omega) hi⟩;obtain⟨y,hy⟩:∃y,a0l m=y:=⟨_,rfl⟩;have hy':=hid hy;rw[hy]at k10 hno3 hyes;have hn64:n<=64:=by omega
 have hn1:1<=n:=by omega
 rw[hn]at d1 d2 hha |-;clear hcol hc2 hq2 hcl2 h1 h2 h0 hn hy hca;go_enter Tryz.func20,Tryz.ntmps20
 go_wp2_with (with_reducible refine a0n a0o (by omega) (by assumption) ?_)
 go_loop [22] (fun cc=>∃i:Nat,cc= .int .i64 i/\i<=n/\Hid (∀q,q<i->∀hq:q<m.length,m[q].length=a0l m)) (fun cc=>n - (intOf cc).toNat)
 case atStart=>exact⟨0,rfl,Nat.zero_le _,hid fun q hq=>by omega⟩
 case round=>
  obtain⟨i,rfl,hi,hok⟩:=hrel;by_cases hlt:i<n
  ·have hil:i<m.length:=by rw[hn'.out];exact hlt
   obtain⟨a1,c1,hX1,hc1,hcl1,hq1⟩:=hsa.row i hil;have k00:=hc1.out noY w (ExtX.refl _) rfl;have hn2:=hid (hno2.out i hil);obtain⟨x,hx⟩:∃x,m[i].length=x:=⟨_,rfl⟩;have hst:Hid (x=y->∀hq:i<m.length,m[i].length=a0l m):=hid fun h hq=>by rw[hx,hy'.out];exact h
   rw[hx,hy'.out]at hn2;rw[hx]at k00;clear hx hc1 hq1 hcl1;by_cases hxy:x=y
   ·have e1:((x:Int) !=(y:Int))=false:=a6k (by omega)
    have hst2:=hid (hst.out hxy);clear hxy;go_wp2_with (with_reducible refine a0n a0o (by omega) (by assumption) ?_)
    go_round
    case rel=>exact⟨i+1,by go_num,by omega,hid (a3V hok.out hst2.out)⟩
    case measure=>simp[intOf];omega
   ·have e1:((x:Int) !=(y:Int))=true:=a5C (by omega)
    have hv:=hid (hn2.out hxy);clear hxy;go_wp2_with (with_reducible refine a0n a0o (by omega) (by assumption) ?_)
    go_ret3
    exact⟨ExtX.refl _,0,0,by rw[hv.out];rfl,fun h=>by rw[hv.out]at h;simp at h⟩
  ·have hin:i=n:=by omega
   subst hin;have hy2:=hid (hyes.out fun q h1 h2=>(hok.out q h1 h2).trans hy'.out);clear hlt k10;by_cases h1:1<=y
   ·have e1:(1:Int)<=(y:Int):=by omega
    by_cases h3:y<=3
    ·have e2:(y:Int)<=3:=by omega
     have hv:=hid (hy2.out h1 h3);go_wp2_with fail
     go_ret3
     exact⟨ExtX.refl _,i,y,by rw[hv.out];rfl,fun _=>⟨hn'.out.symm,hy'.out.symm⟩⟩
    ·have e2:¬(y:Int)<=3:=by omega
     have hv:=hid (hno3.out (.inr (by omega)));go_wp2_with fail
     go_ret3
     exact⟨ExtX.refl _,i,y,by rw[hv.out];rfl,fun _=>⟨hn'.out.symm,hy'.out.symm⟩⟩
   ·have e1:¬(1:Int)<=(y:Int):=by omega
    have hv:=hid (hno3.out (.inl (by omega)));go_wp2_with fail
    go_ret3
    exact⟨ExtX.refl _,i,y,by rw[hv.out];rfl,fun _=>⟨hn'.out.symm,hy'.out.symm⟩⟩
set_option maxRecDepth 100000 in
theorem b2t (X:Nat->Bool) (w:World) (u v:Value) (p:Mat) (y:List Rat) (B:Nat) (hX:HX X w) (hu:MV (mk X w) u p) (hv:RV (mk X w) v y) (hp:p.length<=1000) (hpB:BM B p) (hyB:BR B y) (hB:1<=B) (hBB:B<=3000):
  Calls Tryz.prog 43 #[u,v] w (c0k w (a6g p y) (okE (a2z p y))):=by
 have hfi:=a4y QV.mono X w u p hu (by omega);have hv0:=hv;obtain⟨va,vca,rfl,hvca,hva⟩:=hv;unfold b4I at hfi;cases hok:a2z p y
 ·have hv1:=hid (b4o hok)
  cases hpts:a2k p
  ·rw[hpts]at hfi
   clear hok hpts;go_enter Tryz.func43,Tryz.ntmps43
   go_wp2_with fail
   refine hfi.mono ?_;rintro e w1 ⟨hE1,a,b,rfl,hab⟩;clear hfi;go_wp2_with fail
   go_ret2
   exact⟨hE1,by rw[hv1.out];rfl⟩
  ·have hyc:y.length≠a0l p:=fun h=>by
    unfold a2z at hok;rw[hpts,decide_eq_true h]at hok;simp at hok
   rw[hpts]at hfi;obtain⟨c,hc⟩:∃c,a0l p=c:=⟨_,rfl⟩;obtain⟨yl,hyl⟩:∃yl,y.length=yl:=⟨_,rfl⟩;rw[hc]at hfi;rw[hc,hyl]at hyc;rw[hyl]at hvca |-;clear hc hyl hok hpts;go_enter Tryz.func43,Tryz.ntmps43
   go_wp2_with fail
   refine hfi.mono ?_;rintro e w1 ⟨hE1,a,b,rfl,hab⟩;obtain⟨rfl,rfl⟩:=hab trivial;have d1:((yl:Int) !=(b:Int))=true:=a5C (by omega);clear hfi hyc;go_wp2_with fail
   go_ret2
   exact⟨hE1,by rw[hv1.out];rfl⟩
 obtain⟨f1,f2,f3,f4,f5,f6,f7⟩:=a5S hok hpB hyB hB;obtain⟨hpts,hyc⟩:=a3u hok;rw[hpts]at hfi;have hval:=hid (fun k h=>a4w (k:=k) hok h);have hcen:=hid (fun w' (h:Ext w w')=>b4H X w' u (.slice va y.length vca) p y (a0l p) (hX.ext h) (mkx MV.mono hu h) (mkx RV.mono hv0 h) f1 hyc (by omega) hp);obtain⟨c,hc⟩:∃c,a0l p=c:=⟨_,rfl⟩;rw[hc]at f1 f4 f5 f6 f7 hval hcen hyc hfi;obtain⟨M,hM⟩:∃M,a1a c p y=M:=⟨_,rfl⟩;rw[hM]at f6 f7 hval hcen;rw[hyc]at hcen |-;have hbst:=hid (fun w' um (hX':HX X w') (hm:MV (mk X w') um M)=>a7N p.length X w' um M c (2*B+1) hX' hm f6 f2 f4 f5 f7 (by omega) (by omega));have f7':=hid f7;have hcc:((c:Int) !=(c:Int))=false:=a6k rfl;clear hok f1 f6 f7 hM hc hv0 hva hpB hyB hu hyc hpts;go_enter Tryz.func43,Tryz.ntmps43
 go_wp2_with fail
 refine hfi.mono ?_;rintro e w1 ⟨hE1,a,b,rfl,hab⟩;obtain⟨rfl,rfl⟩:=hab trivial;have hcn:=hcen.out w1 hE1;clear hfi;go_wp2_with fail
 refine hcn.mono ?_;rintro e w2 ⟨hE2,um,rfl,hm⟩;have hE12:=hE1.trans hE2;have hb:=hbst.out w2 um (hX.ext hE12) (hm.mv fun r hr q hq=>Nat.le_trans (f7'.out r hr q hq) (by omega));clear hcn;go_wp2_with fail
 refine hb.mono ?_;rintro e w3 ⟨hE3,k,rfl,_,hk⟩;have hkv:=hid (hval.out k hk);clear hb hk;go_wp2_with fail
 go_ret2
 exact⟨hE12.trans hE3,by rw[hkv.out];rfl⟩
end Go.Proofs.YtoibhmjjhgaimaaGreat
namespace Go.Lin
open Go.Lim Go.Rep
def a7g (p:Mat) (x:List Rat):Bool:=a2k p&&(decide (p.length<=4)&&decide (x.length=a0l p))
theorem a2H {p:Mat} {x:List Rat}:a7g p x=true↔a2k p=true/\p.length<=4/\x.length=a0l p:=by
 unfold a7g;simp
theorem b4J {p:Mat} {x:List Rat} (h:a7g p x=true):a2z p x=true:=by
 obtain⟨h1,_,h3⟩:=a2H.1 h;unfold a2z;rw[h1,decide_eq_true h3];rfl
noncomputable def b1E (p:Mat) (x:List Rat):Bool:=a7g p x&&decide (0<a6g p x)
theorem b6N:∀(n h:Nat) (lo:Int),n<h->a0s n h lo= []
 |n,h,lo,hn=>List.eq_nil_of_length_eq_zero (by rw[a0Y,b5C n h hn])
end Go.Lin
namespace Go.Proofs.YtoibhmjjhgaimaaGreat
open Go.RowKit Go.Rep Go.Lim Go.Lin
def b9n (w:World) (b:Bool) (c:Int) (e:Ending) (w':World):Prop:=Ext w w'/\e= .returned (.tuple #[.bool b, .int .i64 c])
theorem b0k (N H:Nat) (w:World) (h:N<H):Calls Tryz.prog 44 #[.int .i64 (N:Int), .int .i64 (H:Int)] w (fun e w'=>w'=w/\e= .returned (.slice none 0 0)):=by
 go_enter Tryz.func44,Tryz.ntmps44
 go_wp2_with fail
 go_ret
 exact⟨rfl,rfl⟩
theorem a5X (X:Nat->Bool) (N H:Nat) (w:World) (hN:N<=64) (_hH:H<=64) (hch:ch N H<=1000000) (hX:HX X w):
  Calls Tryz.prog 44 #[.int .i64 (N:Int), .int .i64 (H:Int)] w (a4l X w N H):=by
 by_cases h:H<=N
 ·exact a7M X N H w hN h hch hX
 ·refine(b0k N H w (by omega)).mono ?_
  rintro e w' ⟨rfl,rfl⟩;refine⟨ExtX.refl _,none,0,?_⟩;rw[b6N N H 0 (by omega)];exact⟨rfl,Nat.le_refl _,OL.nil _ _ _ _ _ _⟩
set_option maxRecDepth 100000 in
theorem a9x (X:Nat->Bool) (w:World) (u v:Value) (p:Mat) (y:List Rat) (B:Nat) (hX:HX X w) (hu:MV (mk X w) u p) (hv:RV (mk X w) v y) (hp:p.length<=1000) (hpB:BM B p) (hyB:BR B y) (hB:1<=B) (hBB:B<=2000):
  Calls Tryz.prog 46 #[u,v] w (b9n w (b1E p y) (okE (a7g p y))):=by
 have hfi:=a4y QV.mono X w u p hu (by omega);have hv0:=hv;obtain⟨va,vca,rfl,hvca,hva⟩:=hv;unfold b4I at hfi;cases hok:a7g p y
 ·have hv1:Hid (b1E p y=false):=hid (by unfold b1E;rw[hok];rfl)
  cases hpts:a2k p
  ·rw[hpts]at hfi
   clear hok hpts;go_enter Tryz.func46,Tryz.ntmps46
   go_wp2_with fail
   refine hfi.mono ?_;rintro e w1 ⟨hE1,a,b,rfl,hab⟩;clear hfi;go_wp2_with fail
   go_ret2
   exact⟨hE1,by rw[hv1.out];rfl⟩
  ·have hyc:4<p.length\/(p.length<=4/\y.length≠a0l p):=by
    rcases Nat.lt_or_ge 4 p.length with h|h
    ·exact .inl h
    ·refine .inr ⟨h,fun h2=>?_⟩
     rw[a2H.2 ⟨hpts,h,h2⟩]at hok;cases hok
   rw[hpts]at hfi;obtain⟨c,hc⟩:∃c,a0l p=c:=⟨_,rfl⟩;obtain⟨n,hn⟩:∃n,p.length=n:=⟨_,rfl⟩;obtain⟨yl,hyl⟩:∃yl,y.length=yl:=⟨_,rfl⟩;rw[hc,hn]at hfi;rw[hc,hn,hyl]at hyc;rw[hyl]at hvca |-;clear hc hyl hok hpts;go_enter Tryz.func46,Tryz.ntmps46
   go_wp2_with fail
   refine hfi.mono ?_;rintro e w1 ⟨hE1,a,b,rfl,hab⟩;obtain⟨rfl,rfl⟩:=hab trivial;clear hfi;rcases hyc with h4|⟨h4,hyc⟩
   ·go_wp2_with fail
    go_ret2
    exact⟨hE1,by rw[hv1.out];rfl⟩
   ·have d1:((yl:Int) !=(b:Int))=true:=a5C (by omega)
    clear hyc;go_wp2_with fail
    go_ret2
    exact⟨hE1,by rw[hv1.out];rfl⟩
 obtain⟨hpts,hp4,hyc⟩:=a2H.1 hok;have hdo:=b4J hok;obtain⟨f1,f2,f3,f4,f5,f6,f7⟩:=a5S hdo hpB hyB hB;rw[hpts]at hfi;have hval:=hid (fun k h=>(by
  have:=a4w (k:=k) hdo h;unfold b1E;rw[hok,this];rfl:b1E p y=decide (0<k)))
 have hcen:=hid (fun w' (h:Ext w w')=>b4H X w' u (.slice va y.length vca) p y (a0l p) (hX.ext h) (mkx MV.mono hu h) (mkx RV.mono hv0 h) f1 hyc (by omega) hp);obtain⟨c,hc⟩:∃c,a0l p=c:=⟨_,rfl⟩;rw[hc]at f1 f4 f5 f6 f7 hval hcen hyc hfi;obtain⟨M,hM⟩:∃M,a1a c p y=M:=⟨_,rfl⟩;rw[hM]at f6 f7 hval hcen;rw[hyc]at hcen |-;have hbst:=hid (fun w' um (hX':HX X w') (hm:MV (mk X w') um M)=>a7N p.length X w' um M c (2*B+1) hX' hm f6 f2 f4 f5 f7 (by omega) (by omega));have f7':=hid f7;have hcc:((c:Int) !=(c:Int))=false:=a6k rfl;clear hok f1 f6 f7 hM hc hv0 hva hpB hyB hu hyc hpts hdo;go_enter Tryz.func46,Tryz.ntmps46
 go_wp2_with fail
 refine hfi.mono ?_;rintro e w1 ⟨hE1,a,b,rfl,hab⟩;obtain⟨rfl,rfl⟩:=hab trivial;have hcn:=hcen.out w1 hE1;clear hfi;go_wp2_with fail
 refine hcn.mono ?_;rintro e w2 ⟨hE2,um,rfl,hm⟩;have hE12:=hE1.trans hE2;have hb:=hbst.out w2 um (hX.ext hE12) (hm.mv fun r hr q hq=>Nat.le_trans (f7'.out r hr q hq) (by omega));clear hcn;go_wp2_with fail
 refine hb.mono ?_;rintro e w3 ⟨hE3,k,rfl,_,hk⟩;have hkv:=hid (hval.out k hk);clear hb hk;go_wp2_with fail
 go_ret2
 refine⟨hE12.trans hE3,?_⟩;rw[hkv.out];rfl
set_option maxRecDepth 100000 in
set_option maxHeartbeats 1600000 in
theorem a9y (X:Nat->Bool) (w:World) (u v:Value) (p:Mat) (y:List Rat) (B:Nat) (hX:HX X w) (hu:MV (mk X w) u p) (hv:RV (mk X w) v y) (hp:p.length<=1000) (hpB:BM B p) (hyB:BR B y) (hB:1<=B) (hBB:B<=2000):
  Calls Tryz.prog 39 #[u,v] w (a3v w p y):=by
 have hfi:=a4y QV.mono X w u p hu (by omega);have hv0:=hv;obtain⟨va,vca,rfl,hvca,hva⟩:=hv;unfold b4I at hfi;cases hok:b7r p y
 ·have he:Hid (sdE p y=6):=hid (by unfold sdE;rw[hok];rfl)
  cases hpts:a2k p
  ·rw[hpts]at hfi
   clear hok hpts;go_enter Tryz.func39,Tryz.ntmps39
   go_wp2_with fail
   refine hfi.mono ?_;rintro e w1 ⟨hE1,a,b,rfl,hab⟩;clear hfi;go_wp2_with fail
   go_ret3
   exact a3v.no hE1 (by decide) he.out
  ·have hyc:y.length≠a0l p:=fun h=>by rw[a4j.2 ⟨hpts,h⟩]at hok;cases hok
   rw[hpts]at hfi;obtain⟨c,hc⟩:∃c,a0l p=c:=⟨_,rfl⟩;obtain⟨n,hn⟩:∃n,p.length=n:=⟨_,rfl⟩;obtain⟨yl,hyl⟩:∃yl,y.length=yl:=⟨_,rfl⟩;rw[hc,hn]at hfi;rw[hc,hyl]at hyc;rw[hyl]at hvca |-;clear hc hyl hok hpts;go_enter Tryz.func39,Tryz.ntmps39
   go_wp2_with fail
   refine hfi.mono ?_;rintro e w1 ⟨hE1,a,b,rfl,hab⟩;obtain⟨rfl,rfl⟩:=hab trivial;clear hfi;have d1:((yl:Int) !=(b:Int))=true:=a5C (by omega);clear hyc;go_wp2_with fail
   go_ret3
   exact a3v.no hE1 (by decide) he.out
 obtain⟨hpts,hyc⟩:=a4j.1 hok;obtain⟨g1,g2,g3,g4,g5⟩:=a0L.1 hpts;have hrow:=hid (a4u hpts);rw[hpts]at hfi;by_cases hlim:24<p.length/\a0l p=3
 ·have he:Hid (sdE p y=2):=hid (by unfold sdE;rw[hok,if_pos rfl,if_pos (by rw[hyc];exact hlim)])
  obtain⟨c,hc⟩:∃c,a0l p=c:=⟨_,rfl⟩;obtain⟨n,hn⟩:∃n,p.length=n:=⟨_,rfl⟩;rw[hc,hn]at hfi hlim;rw[hyc,hc]at hvca |-;obtain⟨l1,rfl⟩:=hlim;clear hc hok hpts hyc g1 g2 g3 g4 g5;go_enter Tryz.func39,Tryz.ntmps39
  go_wp2_with fail
  refine hfi.mono ?_;rintro e w1 ⟨hE1,a,b,rfl,hab⟩;obtain⟨rfl,rfl⟩:=hab trivial;clear hfi;go_wp2_with fail
  go_ret3
  exact a3v.no hE1 (by decide) he.out
 have he:sdE p y=0:=by unfold sdE;rw[hok,if_pos rfl,if_neg (by rw[hyc];exact hlim)]
 have hL:sdL p y=a0s p.length (a0l p+1) 0:=by unfold sdL;rw[he,if_pos rfl,hyc]
 have hch:ch p.length (a0l p+1)<=1000000:=by
  by_cases h24:p.length<=24
  ·refine Nat.le_trans (a7c _ _) (Nat.le_trans (Nat.pow_le_pow_left h24 _) (Nat.le_trans (Nat.pow_le_pow_right (by decide) (show a0l p+1<=4 by omega)) (by decide)))
  ·refine Nat.le_trans (a7c _ _) (Nat.le_trans (Nat.pow_le_pow_left g2 _) (Nat.le_trans (Nat.pow_le_pow_right (by decide) (show a0l p+1<=3 by omega)) (by decide)))
 have hcom:=hid (fun w' (h:Ext w w')=>a5X X p.length (a0l p+1) w' g2 (by omega) hch (hX.ext h));have hmem:=hid (fun s (h:s∈a0s p.length (a0l p+1) 0)=>a1w p.length (a0l p+1) 0 s h);have hcon:=hid (fun w' um s (h:Ext w w') (hs:s∈a0s p.length (a0l p+1) 0) (hm:MV (mk X w') um (a0B p s))=>(by
  obtain⟨m1,m2,m3⟩:=a1w _ _ _ s hs;have hb:∀i∈s,0<=i/\i<(p.length:Int):=fun i hi=>by have:=m2 i hi;omega
  obtain⟨r1,r2⟩:=a8y hpts m1 hb;have hc:a7g (a0B p s) y=true:=a2H.2 ⟨r1,by rw[a1M];omega,by omega⟩;have:=a9x X w' um (.slice va y.length vca) (a0B p s) y B (hX.ext h) hm (mkx RV.mono hv0 h) (by rw[a1M];omega) (fun r hr=>hpB r (a2u hb r hr)) hyB hB hBB;rw[hc,show b1E (a0B p s) y=inS p y s by unfold b1E;rw[hc];rfl]at this;exact this:Calls Tryz.prog 46 #[um, .slice va y.length vca] w' (b9n w' (inS p y s) 0)))
 have hchl:(a0s p.length (a0l p+1) 0).length<=1000000:=by rw[a0Y];exact hch
 have hnl:=hid (fun h:¬(24<p.length/\a0l p=3)=>h);have hout:=hid (fun(e:Ending) (w':World) (hE:Ext w w') (h:e= .returned (.tuple #[.int .i64 (a4i p y (a0s p.length (a0l p+1) 0):Int), .int .i64 ((a0s p.length (a0l p+1) 0).length:Int), .int .i64 0]))=>(⟨hE,by rw[h,hL,he]⟩:a3v w p y e w'));have hcnt:=hid (b1u p y);have hcle:=hid (a7b p y);obtain⟨pa,pca,rfl,hpca,hpa⟩:=hu;have hhp:=hpa.hd;obtain⟨c,hc⟩:∃c,a0l p=c:=⟨_,rfl⟩;obtain⟨n,hn⟩:∃n,p.length=n:=⟨_,rfl⟩;have hpl':=hid hn;have hc3:c<=3:=by omega
 have hn64:n<=64:=by omega
 rw[hc,hn]at hfi hcom hmem hcon hchl hout hlim;rw[hn]at hpca hhp |-;rw[hyc,hc]at hvca hcon |-;unfold a4l at hcom;obtain⟨C,hC⟩:∃C,a0s n (c+1) 0=C:=⟨_,rfl⟩;rw[hC]at hcom hmem hcon hchl hout;have hcc:((c:Int) !=(c:Int))=false:=a6k rfl;have hl3:(decide ((24:Int)<(n:Int))&&decide ((c:Int)=3))=false:=by
  cases h1:decide ((24:Int)<(n:Int))
  ·rfl
  ·have:=of_decide_eq_true h1
   simp;omega
 obtain⟨K,hK⟩:∃K,C.length=K:=⟨_,rfl⟩;have hK':=hid hK;rw[hK]at hcom hchl hout;have hcase:n<=24\/(24<n/\((c:Int)==3)=false):=by
  rcases Nat.lt_or_ge 24 n with h|h
  ·exact .inr ⟨h,a1S (by omega)⟩
  ·exact .inl h
 clear hc hn hok hpts hyc g1 g2 g3 g4 g5 he hL hch hC hK hlim hl3 hpB hyB hva hv0;go_enter Tryz.func39,Tryz.ntmps39
 go_wp2_with fail
 refine hfi.mono ?_;rintro e w1 ⟨hE1,a,b,rfl,hab⟩;obtain⟨rfl,rfl⟩:=hab trivial;clear hfi hab;have hcm:=hcom.out w1 hE1;rw[show((b+1:Nat):Int)=(b:Int)+1 by omega]at hcm;have hpR:=hpa.mono RV.mono (a0m hE1);have hb4:b<=3:=hc3;rcases hcase with h24|⟨h24,h3⟩
 all_goals
  go_wp2_with fail
  refine hcm.mono ?_;rintro e w2 ⟨hE2,co,cc,rfl,hcc2,hCO⟩;have hsc:=hCO.sl (SlV.elem (a0x.elem .i64));have hhc:=hsc.hd;rw[hK'.out]at hhc;have hE12:=hE1.trans hE2;have hX2:=hX.ext hE12;clear hCO hcm;go_wp2_with fail
  go_loopw [10,11,44] (fun o1 o2 cx wr=>∃q:Nat,cx= .int .i64 q/\q<=K/\o1= .int .i64 (a4i p y (C.take q):Int)/\o2= .int .i64 (q:Int)/\Ext w2 wr) (fun _ _ cx _=>K - (intOf cx).toNat)
  case atStart=>exact⟨0,rfl,Nat.zero_le _,rfl,rfl,ExtX.refl _⟩
  case round=>
   obtain⟨q,rfl,hq,rfl,rfl,hE⟩:=hrel;have hXr:=hX2.ext hE;have hEr:=hE12.trans hE;by_cases hlt:q<K
   ·have hqC:q<C.length:=by rw[hK'.out];exact hlt
    obtain⟨so,sc,f37,h3',s3⟩:=hsc.slice q hqC;have f3:=hE.cell f37;have hsm:C[q]∈C:=List.getElem_mem _;have hco:=hid (fun w' um h=>hcon.out w' um C[q] h hsm);have hct:=hid (hcnt.out (C.take q) C[q]);rw[List.take_append_getElem hqC]at hct;obtain⟨m1,m2,_⟩:=hmem.out C[q] hsm;have hcl:=hcle.out (C.take q);rw[List.length_take,hK'.out]at hcl;have hsr:=s3.mono (a0x.mono _) (a0m hE);have hhs:=hsr.hd;have hsl:=hid m1;have hsbb:=hid m2;obtain⟨s,hs⟩:∃s,C[q]=s:=⟨_,rfl⟩;rw[hs]at f3 h3' hco hct hhs hsr hsl hsbb;obtain⟨cn,hcn⟩:∃cn,a4i p y (C.take q)=cn:=⟨_,rfl⟩;rw[hcn]at hct hcl |-;obtain⟨bb,hbb⟩:∃bb,inS p y s=bb:=⟨_,rfl⟩;rw[hbb]at hct hco;obtain⟨M,hM⟩:∃M,a0B p s=M:=⟨_,rfl⟩;have hMl:M.length=s.length:=by rw[<-hM];exact a1M p s
    have hMi:=hid (show∀j (h1:j<M.length) (h2:j<s.length) (i:Nat) (h3:i<p.length),s[j]=(i:Int)->M[j]=p[i]from fun j h1 h2 i h3 h=>by subst hM;exact a6T h1 h2 h3 h);rw[hM]at hco;rw[hsl.out]at f3 h3' hhs hMl;have hMl':=hid hMl;have hMl1:M.length<=b+1:=by omega
    have hMl2:b+1<=M.length:=by omega
    clear hM hMl hs s3 f37 hcn hbb m1 m2;obtain⟨wo,hwo⟩:∃wo,wo=wr:=⟨_,rfl⟩;subst hwo;go_wp2_with (with_reducible refine a0n b4G (by omega) (by assumption) ?_)
    go_loopw [14,50] (fun o cx wx=>∃(j:Nat) (mo:Option Addr) (mc:Nat),cx= .int .i64 j/\o= .slice mo j mc/\j<=b+1/\OL RV 1 X wo.heap.size 45 wx mo mc (M.take j)/\Ext wo wx) (fun _ cx _=>b+1 - (intOf cx).toNat)
    case atStart=>exact⟨0,none,0,rfl,rfl,Nat.zero_le _,OL.nil _ _ _ _ _ _,ExtX.refl _⟩
    case round=>
     obtain⟨j,mo,mc,rfl,rfl,hj,hO,hEj⟩:=hrel;have hXj:HX X wr:=hXr.ext hEj;have hbj:=hEj.size;clear f3;by_cases hlj:j<b+1
     ·have hjs:j<s.length:=by rw[hsl.out];exact hlj
      have hjM:j<M.length:=by omega
      have htk:=hid (a0S M j hjM);have hln:=hid (a1e (l:=M) (i:=j) (by omega));have hcj:=(hsr.mono (a0x.mono _) (a0m hEj)).int j hjs;obtain⟨h1,h2⟩:=hsbb.out s[j] (List.getElem_mem _);obtain⟨i,hi⟩:=Int.eq_ofNat_of_zero_le h1;have hin:i<a:=by omega
      have hiZ:i<p.length:=by rw[hpl'.out];exact hin
      have hMq:=hMi.out j hjM hjs i hiZ hi;rw[hi]at hcj;have hzr:Sl RV 1 (mk (un X mo) wr) pa p:=(hpa.mono RV.mono (a0m hEr)).old RV.mono hEj (fun j hj=>hO.ob_lt hj);obtain⟨a1,c1,hX1,hc1,hcl1,hq1⟩:=hzr.row i hiZ;have k00:=hc1.out noY wr (ExtX.refl _) rfl;obtain⟨x,hx⟩:∃x,p[i]=x:=⟨_,rfl⟩;rw[hx]at k00 hcl1 hq1 hMq;rw[hMq]at htk;have hRV:RV (mk (un X mo) wr) (.slice a1 x.length c1) x:=⟨a1,c1,rfl,hcl1,hq1⟩;obtain⟨dd,hdd⟩:∃dd,x.length=dd:=⟨_,rfl⟩;rw[hdd]at k00 hRV;clear hx hc1 hcl1 hq1 hMq hdd h1 h2 hi;go_wp2_with (first
       |(with_reducible refine a0n a1G (by omega) (by assumption) ?_)
       |(with_reducible refine a0n a0o (by omega) (by assumption) ?_)
       |(at_builtin;refine a0r (l:=M.take j) a0o rfl RV.elem hbj hXj j hln.out rfl rfl hO (.slice a1 dd c1) x rfl hRV (by omega) (by omega) ?_;intro oo2 co2 w7 hO7 hE7 hor))
      have hE8:=hEj.own hO (Nat.le_refl _) hE7;rw[htk.out]at hO7;go_roundw
      case rel=>exact⟨j+1,oo2,co2,by go_num,by go_num,by omega,hO7,hE8⟩
      case measure=>simp[intOf];omega
     ·have hjr:j=b+1:=by omega
      subst hjr;rw[List.take_of_length_le (by omega)]at hO;have hmc:=hO.lenCap;have hEw:=hE.trans hEj;have hco2:=hid (hco.out wr (.slice mo (b+1) mc) (hE12.trans hEw) ⟨mo,mc,by rw[hMl'.out],by omega,hO.sl RV.elem⟩);clear hlj hO hco;have hc0:b+1<=4:=by omega
      go_wp2_with fail
      refine hco2.out.mono ?_;rintro e w5 ⟨hE5,rfl⟩;have hE35:=hEw.trans hE5;clear hco2;cases bb
      ·have hc2:(cn:Int)=(a4i p y (C.take (q+1)):Int):=by rw[hct.out];rfl
       go_wp2_with fail
       go_roundw
       case rel=>exact⟨q+1,by go_num,by omega,rfl,by go_num,hE35⟩
       case measure=>simp[intOf];omega
      ·have hc2:(cn:Int)+1=(a4i p y (C.take (q+1)):Int):=by rw[hct.out];rfl
       go_wp2_with fail
       go_roundw
       case rel=>exact⟨q+1,by go_num,by omega,by rw[<-hc2],by go_num,hE35⟩
       case measure=>simp[intOf];omega
   ·have hqK:q=K:=by omega
    have hfull:C.take q=C:=List.take_of_length_le (by rw[hK'.out];omega);rw[hfull,hqK];have hfi2:=hid (hout.out _ wr hEr rfl);clear hfull hqK;go_wp2_with fail
    go_ret3
    exact hfi2.out
theorem b2u {p:Mat} {y:List Rat}:a7g p y=(decide (1<=p.length)&&(decide (p.length<=4)&&(a6R p 1 3&&decide (y.length=a0l p)))):=by
 rw[Bool.eq_iff_iff,a2H];simp only[Bool.and_eq_true,decide_eq_true_eq];constructor
 ·rintro ⟨h1,h2,h3⟩
  have h4:=h1;unfold a2k at h4;simp only[Bool.and_eq_true,decide_eq_true_eq]at h4;exact⟨h4.1,h2,h4.2.2,h3⟩
 ·rintro ⟨h1,h2,h3,h4⟩
  refine⟨?_,h2,h4⟩;unfold a2k;simp only[Bool.and_eq_true,decide_eq_true_eq];exact⟨h1,by omega,h3⟩
set_option maxRecDepth 100000 in
theorem b4K (X:Nat->Bool) (w:World) (u v:Value) (p:Mat) (y:List Rat) (B:Nat) (hX:HX X w) (hu:MV (mk X w) u p) (hv:RV (mk X w) v y) (hp:p.length<=1000) (hpB:BM B p) (hyB:BR B y) (hB:1<=B) (hBB:B<=2000):
  Calls Tryz.prog 45 #[u,v] w (b9n w (b1E p y) (okE (a7g p y))):=by
 have hsm:=a9i X w u p 1 3 hu (by omega);rw[show((1:Nat):Int)=1 from rfl,show((3:Nat):Int)=3 from rfl]at hsm;have hcs:=b2u (p:=p) (y:=y);obtain⟨ua,uca,rfl,huca,hua⟩:=id hu;obtain⟨va,vca,rfl,hvca,hva⟩:=id hv;cases hok:a7g p y
 ·have hv1:Hid (b1E p y=false):=hid (by unfold b1E;rw[hok];rfl)
  rw[hok]at hcs;by_cases h1:p.length<1
  ·obtain⟨n,hn⟩:∃n,p.length=n:=⟨_,rfl⟩
   rw[hn]at h1 hsm |-;clear hok hcs hn;go_enter Tryz.func45,Tryz.ntmps45
   go_wp2_with fail
   go_ret2
   exact⟨ExtX.refl _,by rw[hv1.out];rfl⟩
  by_cases h4:4<p.length
  ·obtain⟨n,hn⟩:∃n,p.length=n:=⟨_,rfl⟩
   rw[hn]at h1 h4 hsm |-;clear hok hcs hn;go_enter Tryz.func45,Tryz.ntmps45
   go_wp2_with fail
   go_ret2
   exact⟨ExtX.refl _,by rw[hv1.out];rfl⟩
  have h0p:0<p.length:=by omega
  obtain⟨a0,c0,hX0,hc0,hcl0,hq0⟩:=hua.row 0 h0p;have hhp:=hua.hd;have k00:=hc0.out noY w (ExtX.refl _) rfl;cases hs:a6R p 1 3
  ·obtain⟨n,hn⟩:∃n,p.length=n:=⟨_,rfl⟩
   rw[hs,hn]at hsm;rw[hn]at h1 h4 |-;clear hok hcs hn hs k00;go_enter Tryz.func45,Tryz.ntmps45
   go_wp2_with fail
   refine hsm.mono ?_;rintro e w1 ⟨rfl,rfl⟩;go_wp2_with fail
   go_ret2
   exact⟨ExtX.refl _,by rw[hv1.out];rfl⟩
  ·have hl:=a4t.1 hs 0 h0p
   have hyc:y.length≠a0l p:=fun h=>by
    rw[hs,decide_eq_true (show 1<=p.length by omega),decide_eq_true (show p.length<=4 by omega),decide_eq_true h]at hcs;cases hcs
   rw[hl.1]at k00;obtain⟨n,hn⟩:∃n,p.length=n:=⟨_,rfl⟩;obtain⟨c,hc⟩:∃c,a0l p=c:=⟨_,rfl⟩;obtain⟨yl,hyl⟩:∃yl,y.length=yl:=⟨_,rfl⟩;rw[hs,hn]at hsm;rw[hn]at h1 h4 hhp |-;rw[hc]at k00 hyc;rw[hyl]at hyc |-;have d1:((yl:Int) !=(c:Int))=true:=a5C (by omega);clear hok hcs hn hs hc hyl hyc hl;go_enter Tryz.func45,Tryz.ntmps45
   go_wp2_with fail
   refine hsm.mono ?_;rintro e w1 ⟨rfl,rfl⟩;go_wp2_with (with_reducible refine a0n a0o (by omega) (by assumption) ?_)
   go_ret2
   exact⟨ExtX.refl _,by rw[hv1.out];rfl⟩
 obtain⟨hpts,hp4,hyc⟩:=a2H.1 hok;obtain⟨g1,g2,g3,g4,g5⟩:=a0L.1 hpts;have hs:a6R p 1 3=true:=by
  unfold a2k at hpts;simp only[Bool.and_eq_true]at hpts;exact hpts.2.2
 have h0p:0<p.length:=by omega
 obtain⟨a0,c0,hX0,hc0,hcl0,hq0⟩:=hua.row 0 h0p;have hhp:=hua.hd;have k00:=hc0.out noY w (ExtX.refl _) rfl;rw[g5 0 h0p]at k00;have hcon:=b1y X w _ _ p y p.length (a0l p) B hX hu hv (b1m hpts) g2 g3 g4 hyc hpB hyB hB hBB;have hval:Hid (decide (0<a6g p y)=b1E p y):=hid (by unfold b1E;rw[hok];rfl);rw[hval.out,hyc]at hcon;rw[hyc];obtain⟨n,hn⟩:∃n,p.length=n:=⟨_,rfl⟩;obtain⟨c,hc⟩:∃c,a0l p=c:=⟨_,rfl⟩;obtain⟨bb,hbb⟩:∃bb,b1E p y=bb:=⟨_,rfl⟩;rw[hs,hn]at hsm;rw[hn,hc,hbb]at hcon;rw[hn]at hp4 hhp g1;rw[hc]at k00;rw[hn,hc,hbb];have hcc:((c:Int) !=(c:Int))=false:=a6k rfl;clear hok hcs hn hs hc hyc g2 g3 g4 g5 hpts hbb hval hpB hyB;go_enter Tryz.func45,Tryz.ntmps45
 go_wp2_with fail
 refine hsm.mono ?_;rintro e w1 ⟨rfl,rfl⟩;go_wp2_with (with_reducible refine a0n a0o (by omega) (by assumption) ?_)
 refine hcon.mono ?_;rintro e w2 ⟨hE2,rfl⟩;go_wp2_with fail
 go_ret2
 exact⟨hE2,rfl⟩
end Go.Proofs.YtoibhmjjhgaimaaGreat
namespace Go.Lin
open Go.Lim Go.Rep
def a3D (f:Nat->Nat):Nat->List Nat×Nat
 |0=>([],0)
 |i+1=>if i=0\/(a3D f i).2<f i then([i],f i)else if f i=(a3D f i).2 then((a3D f i).1++[i],(a3D f i).2)else a3D f i
theorem b1F {f:Nat->Nat} {i:Nat} (h:i=0\/(a3D f i).2<f i):a3D f (i+1)=([i],f i):=by rw[a3D,if_pos h]
theorem a9z {f:Nat->Nat} {i:Nat} (h:¬(i=0\/(a3D f i).2<f i)) (h2:f i=(a3D f i).2):a3D f (i+1)=((a3D f i).1++[i],(a3D f i).2):=by rw[a3D,if_neg h,if_pos h2]
theorem a9A {f:Nat->Nat} {i:Nat} (h:¬(i=0\/(a3D f i).2<f i)) (h2:f i≠(a3D f i).2):a3D f (i+1)=a3D f i:=by rw[a3D,if_neg h,if_neg h2]
theorem a8C (f:Nat->Nat) (i:Nat):(a3D f i).1.length<=i:=by
 induction i with
 |zero=>exact Nat.le_refl _
 |succ i ih=>
  rw[a3D];split
  ·simp
  ·split
   ·simp;exact ih
   ·omega
theorem b9o {f:Nat->Nat} {B:Nat} (h:∀i,f i<=B) (i:Nat):(a3D f i).2<=B:=by
 induction i with
 |zero=>exact Nat.zero_le _
 |succ i ih=>
  rw[a3D];split
  ·exact h i
  ·split
   ·exact ih
   ·exact ih
def a7k (p:Mat):Int:=if a2k p then(if 24<p.length/\a0l p=3 then 2 else 0)else 6
noncomputable def b2v (p:Mat) (i:Nat):Nat:=a4i p (p.getD i []) (a0s p.length (a0l p+1) 0)
noncomputable def a9D (p:Mat):List Nat×Nat:=if a7k p=0 then a3D (b2v p) p.length else([],0)
end Go.Lin
namespace Go.Proofs.YtoibhmjjhgaimaaGreat
open Go.RowKit Go.Rep Go.Lim Go.Lin
def a3B (X:Nat->Bool) (w:World) (p:Mat) (e:Ending) (w':World):Prop:=Ext w w'/\∃(ao:Option Addr) (cap:Nat),e= .returned (.tuple #[.slice ao (a9D p).1.length cap, .int .i64 ((a9D p).2:Int), .int .i64 (a7k p)])/\(a9D p).1.length<=cap/\Sl (a0a .i64) 1 (mk X w') ao (a9D p).1
theorem a3B.no {X:Nat->Bool} {w w':World} {p:Mat} {c:Int} (hE:Ext w w') (hc:c≠0) (h:a7k p=c):a3B X w p (.returned (.tuple #[.slice none 0 0, .int .i64 0, .int .i64 c])) w':=by
 have h1:a9D p=([],0):=by unfold a9D;rw[h,if_neg hc]
 refine⟨hE,none,0,?_⟩;rw[h1,h];exact⟨rfl,Nat.le_refl _,Sl.nil _ _ _ _⟩
theorem b4L {p:Mat} (h:a2k p=true) (i:Nat) (hi:i<p.length):sdE p p[i]=a7k p/\(a7k p=0->a4i p p[i] (sdL p p[i])=b2v p i):=by
 have hl:=a4u h _ (List.getElem_mem hi);have e1:sdE p p[i]=a7k p:=by
  unfold sdE a7k;rw[a4j.2 ⟨h,hl⟩,h,hl]
 refine⟨e1,fun h0=>?_⟩;have e2:sdL p p[i]=a0s p.length (a0l p+1) 0:=by unfold sdL;rw[e1,h0,if_pos rfl,hl]
 have e3:p.getD i []=p[i]:=by simp[List.getD_eq_getElem?_getD,hi]
 rw[e2];unfold b2v;rw[e3]
theorem b4M {p:Mat} (h:a2k p=true) (i:Nat):b2v p i<=16777216:=by
 obtain⟨g1,g2,g3,g4,g5⟩:=a0L.1 h;have h1:=a7b p (p.getD i []) (a0s p.length (a0l p+1) 0);rw[a0Y]at h1;have h2:=b7q (k:=a0l p+1) g2 (by omega);unfold b2v;omega
set_option maxRecDepth 100000 in
set_option maxHeartbeats 1600000 in
theorem b1G (X:Nat->Bool) (w:World) (u:Value) (p:Mat) (B:Nat) (hX:HX X w) (hu:MV (mk X w) u p) (hp:p.length<=1000) (hpB:BM B p) (hB:1<=B) (hBB:B<=2000):
  Calls Tryz.prog 56 #[u] w (a3B X w p):=by
 have hpt:=a4R X w u p hu (by omega);cases hpts:a2k p
 ·have he:Hid (a7k p=6):=hid (by unfold a7k;rw[hpts];rfl)
  rw[hpts]at hpt;clear hpts;go_enter Tryz.func56,Tryz.ntmps56
  go_wp2_with fail
  refine hpt.mono ?_;rintro e w1 ⟨rfl,rfl⟩;clear hpt;go_wp2_with fail
  go_ret3
  exact a3B.no (ExtX.refl _) (by decide) he.out
 rw[hpts]at hpt;obtain⟨g1,g2,g3,g4,g5⟩:=a0L.1 hpts;have hp1:=g1;have hF:=b4M hpts;have hlen:=hid (a8C (b2v p));have hle:=hid (b9o hF);have hF':=hid hF;obtain⟨E,hE0⟩:∃E,a7k p=E:=⟨_,rfl⟩;have hdep:=hid (fun w' u' i (hi:i<p.length) (h:Ext w w') (hr:RV (mk X w') u' p[i])=>(by
  obtain⟨m1,m2⟩:=b4L hpts i hi;rw[hE0]at m1 m2;exact(a2V X w' u u' p p[i] B (hX.ext h) (mkx MV.mono hu h) hr hp hpB (hpB _ (List.getElem_mem _)) hB hBB).mono fun e w'' ⟨h1,h2⟩=>⟨h1,by rw[h2,m1],m2⟩:
  Calls Tryz.prog 37 #[u,u'] w' (fun e w''=>Ext w' w''/\e= .returned (.tuple #[.int .i64 (a4i p p[i] (sdL p p[i]):Int), .int .i64 ((sdL p p[i]).length:Int), .int .i64 E])/\(E=0->a4i p p[i] (sdL p p[i])=b2v p i))))
 have hout:=hid (fun(w':World) ao cap (l:List Nat) (m:Nat) (h0:E=0) (h:Ext w w') (hm:a3D (b2v p) p.length=(l,m)) (hc:l.length<=cap) (hs:Sl (a0a .i64) 1 (mk X w') ao l)=>(by
  have h1:a9D p=(l,m):=by unfold a9D;rw[hE0,h0,if_pos rfl,hm]
  refine⟨h,ao,cap,?_⟩;rw[h1,hE0,h0];exact⟨rfl,hc,hs⟩:a3B X w p (.returned (.tuple #[.slice ao l.length cap, .int .i64 (m:Int), .int .i64 0])) w'))
 have hno:=hid (fun(w':World) (hc:E≠0) (h:Ext w w')=>a3B.no (X:=X) h hc hE0);obtain⟨F,hFe⟩:∃F,b2v p=F:=⟨_,rfl⟩;rw[hFe]at hlen hle hF' hdep hout;have hu0:=hu;obtain⟨ua,uca,rfl,huca,hua⟩:=hu;have hhu:=hua.hd;obtain⟨n,hn⟩:∃n,p.length=n:=⟨_,rfl⟩;have hpl':=hid hn;rw[hn]at hpt hout hhu huca g2 hp1 |-;clear hpts hF hFe hE0 hn hpB hu0 g1 g3 g4 g5;go_enter Tryz.func56,Tryz.ntmps56
 go_wp2_with fail
 refine hpt.mono ?_;rintro e w1 ⟨rfl,rfl⟩;clear hpt;go_wp2_with fail
 go_loopw [2,3,15] (fun a b cx wr=>∃(i:Nat) (l:List Nat) (m:Nat) (oo:Option Addr) (co:Nat),cx= .int .i64 i/\i<=n/\a= .slice oo l.length co/\b= .int .i64 (m:Int)/\Hid (0<i->E=0)/\Hid (a3D F i=(l,m))/\l.length<=i/\m<=16777216/\OL (a0a .i64) 1 X w1.heap.size 3 wr oo co l/\Ext w1 wr) (fun _ _ cx _=>n - (intOf cx).toNat)
 case atStart=>exact⟨0,[],0,none,0,rfl,Nat.zero_le _,rfl,rfl,hid (fun h=>by omega),hid rfl,Nat.le_refl _,Nat.zero_le _,OL.nil _ _ _ _ _ _,ExtX.refl _⟩
 case round=>
  obtain⟨i,l,m,oo,co,rfl,hi,rfl,rfl,hEi,hst,hli,hm16,hO,hE⟩:=hrel;have hXr:=hX.ext hE;by_cases hlt:i<n
  ·have hip:i<p.length:=by rw[hpl'.out];exact hlt
   obtain⟨a1,c1,hX1,hc1,hcl1,hq1⟩:=hua.row i hip;have k00:=hc1.out noY wr hE rfl;have hdp:=hid (hdep.out wr (.slice a1 p[i].length c1) i hip hE ⟨a1,c1,rfl,hcl1,hq1.mono QV.mono (a0m hE)⟩);obtain⟨x,hx⟩:∃x,p[i]=x:=⟨_,rfl⟩;rw[hx]at k00;have hx':=hid hx;obtain⟨d,hd⟩:∃d,x.length=d:=⟨_,rfl⟩;rw[hd]at k00;have hdp2:Hid (Calls Tryz.prog 37 #[.slice ua n uca, .slice a1 d c1] wr (fun e w''=>Ext wr w''/\∃m1 m2:Nat,e= .returned (.tuple #[.int .i64 (m1:Int), .int .i64 (m2:Int), .int .i64 E])/\(E=0->m1=F i))):=hid (by
    have h:=hdp.out;rw[hpl'.out]at h;subst hx;rw[hd]at h;exact h.mono fun e w'' ⟨h1,h2,h3⟩=>⟨h1,_,_,h2,h3⟩)
   clear hx hc1 hcl1 hq1 hdp hd;go_wp2_with (with_reducible refine a0n a0o (by omega) (by assumption) ?_)
   refine hdp2.out.mono ?_;rintro e w5 ⟨hE5,m1,m2,rfl,hm⟩;have hE05:=hE.trans hE5;clear hdp2 k00;by_cases hE0:E=0
   ·subst hE0
    have hFi:=hid (hm rfl);have hF16:=hF'.out i;rw[<-hFi.out]at hF16;have hO5:=hO.ext0 (a0a.elem _) hE5;have hX5:=hX.ext hE05;have hb5:=hE05.size;by_cases hnew:i=0\/m<m1
    ·have hst2:Hid (a3D F (i+1)=([i],m1)):=hid (by
      rw[hFi.out];refine b1F ?_;rw[hst.out,<-hFi.out];exact hnew)
     have hcs:((i:Int)==0)=true\/(((i:Int)==0)=false/\m<m1):=by
      by_cases h:i=0
      ·exact .inl (a7w (by omega))
      ·exact .inr ⟨a1S (by omega),by omega⟩
     have hmm:((m1:Int)==(m1:Int))=true:=a7w rfl;have hO0:=OL.nil (a0a .i64) 1 X w1.heap.size 3 w5;clear hm hO hnew;rcases hcs with h1|⟨h1,h2⟩
     all_goals
      go_wp2_with (at_builtin;refine a0r (l:=([]:List Nat)) a1G rfl (a0a.elem _) hb5 hX5 0 rfl rfl rfl hO0 (.int .i64 (i:Int)) i rfl rfl (by omega) (by omega) ?_;intro oo2 co2 w7 hO7 hE7 hor)
      have hE8:=hE05.own hO0 (Nat.le_refl _) hE7;go_roundw
      case rel=>exact⟨i+1,[i],m1,oo2,co2,by go_num,by omega,rfl,rfl,hid fun _=>(by trivial),hst2,by simp,hF16,hO7,hE8⟩
      case measure=>simp[intOf];omega
    ·have hi0:((i:Int)==0)=false:=a1S (by omega)
     have hle2:m1<=m:=by omega
     by_cases heq:m1=m
     ·have hst2:Hid (a3D F (i+1)=(l++[i],m)):=hid (by
       rw[a9z (by rw[hst.out,<-hFi.out];exact hnew) (by rw[hst.out,<-hFi.out];exact heq),hst.out])
      subst heq;have hmm:((m1:Int)==(m1:Int))=true:=a7w rfl;obtain⟨q,hq⟩:∃q,l.length=q:=⟨_,rfl⟩;have hq':=hid hq;rw[hq]at hli;rw[hq];clear hm hO hnew hq;go_wp2_with (at_builtin;refine a0r (l:=l) a1G rfl (a0a.elem _) hb5 hX5 q hq'.out rfl rfl hO5 (.int .i64 (i:Int)) i rfl rfl (by omega) (by omega) ?_;intro oo2 co2 w7 hO7 hE7 hor)
      have hE8:=hE05.own hO5 (Nat.le_refl _) hE7;go_roundw
      case rel=>exact⟨i+1,l++[i],m1,oo2,co2,by go_num,by omega,by rw[List.length_append,hq'.out];rfl,rfl,hid fun _=>(by trivial),hst2,by rw[List.length_append,hq'.out];simp;omega,hm16,hO7,hE8⟩
      case measure=>simp[intOf];omega
     ·have hst2:Hid (a3D F (i+1)=(l,m)):=hid (by
       rw[a9A (by rw[hst.out,<-hFi.out];exact hnew) (by rw[hst.out,<-hFi.out];exact heq),hst.out])
      have hne:((m1:Int)==(m:Int))=false:=a1S (by omega);clear hm hO hnew;go_wp2_with fail
      go_roundw
      case rel=>exact⟨i+1,l,m,oo,co,by go_num,by omega,rfl,rfl,hid fun _=>(by trivial),hst2,by omega,hm16,hO5,hE05⟩
      case measure=>simp[intOf];omega
   ·have hno2:=hid (hno.out w5 hE0 hE05)
    have hEb:((E:Int) !=0)=true:=a5C hE0;clear hm hE0;go_wp2_with fail
    go_ret3
    exact hno2.out
  ·have hin:i=n:=by omega
   have hOs:=hO.sl (a0a.elem _);have hOc:=hO.lenCap;have hE0:E=0:=hEi.out (by omega);have hfi:=hid (hout.out wr oo co l m hE0 hE (by rw[<-hin];exact hst.out) hOc hOs);clear hin hO hOs;go_wp2_with fail
   go_ret3
   exact hfi.out
set_option maxRecDepth 100000 in
set_option maxHeartbeats 1600000 in
theorem b4N (X:Nat->Bool) (w:World) (u:Value) (p:Mat) (B:Nat) (hX:HX X w) (hu:MV (mk X w) u p) (hp:p.length<=1000) (hpB:BM B p) (hB:1<=B) (hBB:B<=2000):
  Calls Tryz.prog 57 #[u] w (a3B X w p):=by
 have hfi:=a4y QV.mono X w u p hu (by omega);unfold b4I at hfi;cases hpts:a2k p
 ·have he:Hid (a7k p=6):=hid (by unfold a7k;rw[hpts];rfl)
  rw[hpts]at hfi;clear hpts;go_enter Tryz.func57,Tryz.ntmps57
  go_wp2_with fail
  refine hfi.mono ?_;rintro e w1 ⟨hE1,a,b,rfl,hab⟩;clear hfi;go_wp2_with fail
  go_ret3
  exact a3B.no hE1 (by decide) he.out
 rw[hpts]at hfi;obtain⟨g1,g2,g3,g4,g5⟩:=a0L.1 hpts;by_cases hlim:24<p.length/\a0l p=3
 ·have he:Hid (a7k p=2):=hid (by unfold a7k;rw[hpts,if_pos rfl,if_pos hlim])
  obtain⟨c,hc⟩:∃c,a0l p=c:=⟨_,rfl⟩;obtain⟨n,hn⟩:∃n,p.length=n:=⟨_,rfl⟩;rw[hc,hn]at hfi hlim;obtain⟨l1,rfl⟩:=hlim;clear hc hn hpts g1 g2 g3 g4 g5;go_enter Tryz.func57,Tryz.ntmps57
  go_wp2_with fail
  refine hfi.mono ?_;rintro e w1 ⟨hE1,a,b,rfl,hab⟩;obtain⟨rfl,rfl⟩:=hab trivial;clear hfi;go_wp2_with fail
  go_ret3
  exact a3B.no hE1 (by decide) he.out
 have hE0:a7k p=0:=by unfold a7k;rw[hpts,if_pos rfl,if_neg hlim]
 have hcase:p.length<=24\/(24<p.length/\((a0l p:Int)==3)=false):=by
  rcases Nat.lt_or_ge 24 p.length with h|h
  ·exact .inr ⟨h,a1S (by omega)⟩
  ·exact .inl h
 have hp1:=g1;have hF:=b4M hpts;have hlen:=hid (a8C (b2v p));have hF':=hid hF;have hdep:=hid (fun w' u' i (hi:i<p.length) (h:Ext w w') (hr:RV (mk X w') u' p[i])=>(by
  obtain⟨m1,m2⟩:=b4L hpts i hi;rw[hE0]at m1 m2;exact(a9y X w' u u' p p[i] B (hX.ext h) (mkx MV.mono hu h) hr hp hpB (hpB _ (List.getElem_mem _)) hB hBB).mono fun e w'' ⟨h1,h2⟩=>⟨h1,(sdL p p[i]).length,by rw[h2,m1,m2 rfl]⟩:
  Calls Tryz.prog 39 #[u,u'] w' (fun e w''=>Ext w' w''/\∃m2:Nat,e= .returned (.tuple #[.int .i64 (b2v p i:Int), .int .i64 (m2:Int), .int .i64 0]))))
 have hout:=hid (fun(w':World) ao cap (l:List Nat) (m:Nat) (h:Ext w w') (hm:a3D (b2v p) p.length=(l,m)) (hc:l.length<=cap) (hs:Sl (a0a .i64) 1 (mk X w') ao l)=>(by
  have h1:a9D p=(l,m):=by unfold a9D;rw[hE0,if_pos rfl,hm]
  refine⟨h,ao,cap,?_⟩;rw[h1,hE0];exact⟨rfl,hc,hs⟩:a3B X w p (.returned (.tuple #[.slice ao l.length cap, .int .i64 (m:Int), .int .i64 0])) w'))
 obtain⟨F,hFe⟩:∃F,b2v p=F:=⟨_,rfl⟩;rw[hFe]at hlen hF' hdep hout;obtain⟨ua,uca,rfl,huca,hua⟩:=id hu;have hhu:=hua.hd;obtain⟨n,hn⟩:∃n,p.length=n:=⟨_,rfl⟩;obtain⟨c,hc⟩:∃c,a0l p=c:=⟨_,rfl⟩;have hpl':=hid hn;rw[hn]at hfi hout hhu huca g2 hp1 hcase |-;rw[hc]at hfi hcase;clear hpts hF hFe hE0 hn hpB g1 g3 g4 g5 hlim hc;go_enter Tryz.func57,Tryz.ntmps57
 go_wp2_with fail
 refine hfi.mono ?_;rintro e w1 ⟨hE1,a,b,rfl,hab⟩;obtain⟨rfl,rfl⟩:=hab trivial;clear hfi hab;rcases hcase with h24|⟨h24,h3⟩
 all_goals
  go_wp2_with fail
  go_loopw [8,9,31] (fun o1 o2 cx wr=>∃(i:Nat) (l:List Nat) (m:Int) (oo:Option Addr) (co:Nat),cx= .int .i64 i/\i<=a/\o1= .slice oo l.length co/\o2= .int .i64 m/\Hid ((i=0/\l= []/\m= -1)\/(0<i/\∃k:Nat,m=(k:Int)/\a3D F i=(l,k)))/\l.length<=i/\ -1<=m/\m<=16777216/\OL (a0a .i64) 1 X w.heap.size 3 wr oo co l/\Ext w wr) (fun _ _ cx _=>a - (intOf cx).toNat)
  case atStart=>exact⟨0,[],-1,none,0,rfl,Nat.zero_le _,rfl,rfl,hid (.inl ⟨rfl,rfl,rfl⟩),Nat.le_refl _,by omega,by omega,OL.nil _ _ _ _ _ _,hE1⟩
  case round=>
   obtain⟨i,l,m,oo,co,rfl,hi,rfl,rfl,hst,hli,hm0,hm16,hO,hE⟩:=hrel;have hXr:=hX.ext hE;by_cases hlt:i<a
   ·have hip:i<p.length:=by rw[hpl'.out];exact hlt
    obtain⟨a1,c1,hX1,hc1,hcl1,hq1⟩:=hua.row i hip;have k00:=hc1.out noY wr hE rfl;have hdp:=hid (hdep.out wr (.slice a1 p[i].length c1) i hip hE ⟨a1,c1,rfl,hcl1,hq1.mono QV.mono (a0m hE)⟩);obtain⟨x,hx⟩:∃x,p[i]=x:=⟨_,rfl⟩;rw[hx]at k00 hdp;obtain⟨d,hd⟩:∃d,x.length=d:=⟨_,rfl⟩;rw[hd]at k00 hdp;have hst':=hst.out;have hF16:=hF'.out i;have hnx:=hid (fun h=>b1F (f:=F) (i:=i) h);have hsx:=hid (fun h1 h2=>a9z (f:=F) (i:=i) h1 h2);have hlx:=hid (fun h1 h2=>a9A (f:=F) (i:=i) h1 h2);obtain⟨m1,hm1⟩:∃m1,F i=m1:=⟨_,rfl⟩;rw[hm1]at hdp hF16 hnx hsx hlx;have hdp':=hdp.out;rw[hpl'.out]at hdp';have hdp2:=hid hdp';clear hx hc1 hcl1 hq1 hdp hd hm1 hdp';go_wp2_with (with_reducible refine a0n a0o (by omega) (by assumption) ?_)
    refine hdp2.out.mono ?_;rintro e w5 ⟨hE5,m2,rfl⟩;have hE05:=hE.trans hE5;have hO5:=hO.ext0 (a0a.elem _) hE5;have hX5:=hX.ext hE05;have hb5:=hE05.size;clear hdp2 k00;by_cases hnew:m<(m1:Int)
    ·have hst2:Hid (a3D F (i+1)=([i],m1)):=hid (hnx.out (by
      rcases hst' with⟨h1,_,_⟩|⟨h1,k,h2,h3⟩
      ·exact .inl h1
      ·refine .inr ?_;rw[h3];show k<m1;omega))
     have hmm:((m1:Int)==(m1:Int))=true:=a7w rfl;have hO0:=OL.nil (a0a .i64) 1 X w.heap.size 3 w5;clear hO hst';go_wp2_with (at_builtin;refine a0r (l:=([]:List Nat)) a1G rfl (a0a.elem _) hb5 hX5 0 rfl rfl rfl hO0 (.int .i64 (i:Int)) i rfl rfl (by omega) (by omega) ?_;intro oo2 co2 w7 hO7 hE7 hor)
     have hE8:=hE05.own hO0 (Nat.le_refl _) hE7;go_roundw
     case rel=>exact⟨i+1,[i],m1,oo2,co2,by go_num,by omega,rfl,rfl,hid (.inr ⟨by omega,m1,rfl,hst2.out⟩),by simp,by omega,by omega,hO7,hE8⟩
     case measure=>simp[intOf];omega
    ·obtain⟨h1,k,rfl,h3⟩:0<i/\∃k:Nat,m=(k:Int)/\a3D F i=(l,k):=by
      rcases hst' with⟨_,_,h⟩|h
      ·exfalso;omega
      ·exact h
     by_cases heq:m1=k
     ·have hst2:Hid (a3D F (i+1)=(l++[i],k)):=hid (by
       have:=hsx.out (by rw[h3];show¬(i=0\/k<m1);omega) (by rw[h3];exact heq);rw[this,h3])
      subst heq;have hmm:((m1:Int)==(m1:Int))=true:=a7w rfl;obtain⟨q,hq⟩:∃q,l.length=q:=⟨_,rfl⟩;have hq':=hid hq;rw[hq]at hli;rw[hq];clear hO hq h3;go_wp2_with (at_builtin;refine a0r (l:=l) a1G rfl (a0a.elem _) hb5 hX5 q hq'.out rfl rfl hO5 (.int .i64 (i:Int)) i rfl rfl (by omega) (by omega) ?_;intro oo2 co2 w7 hO7 hE7 hor)
      have hE8:=hE05.own hO5 (Nat.le_refl _) hE7;go_roundw
      case rel=>exact⟨i+1,l++[i],m1,oo2,co2,by go_num,by omega,by rw[List.length_append,hq'.out];rfl,rfl,hid (.inr ⟨by omega,m1,rfl,hst2.out⟩),by rw[List.length_append,hq'.out];simp;omega,by omega,by omega,hO7,hE8⟩
      case measure=>simp[intOf];omega
     ·have hst2:Hid (a3D F (i+1)=(l,k)):=hid (by
       have:=hlx.out (by rw[h3];show¬(i=0\/k<m1);omega) (by rw[h3];exact heq);rw[this,h3])
      have hne:((m1:Int)==(k:Int))=false:=a1S (by omega);clear hO h3;go_wp2_with fail
      go_roundw
      case rel=>exact⟨i+1,l,k,oo,co,by go_num,by omega,rfl,rfl,hid (.inr ⟨by omega,k,rfl,hst2.out⟩),by omega,by omega,by omega,hO5,hE05⟩
      case measure=>simp[intOf];omega
   ·have hin:i=a:=by omega
    obtain⟨h1,k,rfl,h3⟩:0<i/\∃k:Nat,m=(k:Int)/\a3D F i=(l,k):=by
     rcases hst.out with⟨h,_,_⟩|h
     ·exfalso;omega
     ·exact h
    have hOs:=hO.sl (a0a.elem _);have hOc:=hO.lenCap;have hfi:=hid (hout.out wr oo co l k hE (by rw[<-hin];exact h3) hOc hOs);clear hin hO hOs h3;go_wp2_with fail
    go_ret3
    exact hfi.out
theorem a8D {a b:List Nat} (hl:a.length=b.length) (h:∀i (hi:i<a.length) (hj:i<b.length),a[i]=b[i]):a=b:=List.ext_getElem hl h
theorem c0E {w wr:World} (h:Hid (∃m,wr=w.drewN m)) (n:Nat):∃m,wr.drewN n=w.drewN m:=by
 obtain⟨m,rfl⟩:=h;exact⟨_,World.drewN_drewN _ _ _⟩
theorem b2w (X:Nat->Bool) (ao bo:Option Addr) (a b:List Nat) (ca cb:Nat) (w:World) (hsa:Sl (a0a .i64) 1 (mk X w) ao a) (hsb:Sl (a0a .i64) 1 (mk X w) bo b) (hla:a.length<=1099511627776):
  Calls Tryz.prog 58 #[.slice ao a.length ca, .slice bo b.length cb] w fun e w'=>e= .returned (.bool (a==b))/\∃m,w'=w.drewN m:=by
 have hha:=hsa.hd;have hhb:=hsb.hd;by_cases hlen:a.length=b.length
 ·have hbl:b.length<=a.length:=by omega
  have hab:a.length<=b.length:=by omega
  have hne:((a.length:Int) !=b.length)=false:=a6k (by omega);have hlen':=hid hlen;clear hlen;go_enter Tryz.func58,Tryz.ntmps58
  go_wp2_with fail
  go_loopw [5] (fun c wr=>∃i:Nat,c= .int .i64 i/\i<=a.length/\Hid (∀p,p<i->∀(hp:p<a.length) (hq:p<b.length),a[p]=b[p])/\∃m,wr=w.drewN m) (fun c _=>a.length - (intOf c).toNat)
  case atStart=>exact⟨0,rfl,Nat.zero_le _,fun p hp=>by omega,0,rfl⟩
  case round=>
   obtain⟨i,rfl,hi,hok,hDr⟩:=hrel;have hDq:Hid (∃m,wr=w.drewN m):=hid hDr;have hE:Ext w wr:=by
    obtain⟨m,hm⟩:=hDr;rw[hm];exact(ExtX.refl w).drewN m
   clear hDr;by_cases hlt:i<a.length
   ·have hlt2:i<b.length:=by omega
    have c1:=(hsa.mono (a0a.mono _) (a0m hE)).nat i hlt;have c2:=(hsb.mono (a0a.mono _) (a0m hE)).nat i hlt2;have i1:∀W,(Instr.indexAt 22 (.slice ao a.length ca) (.int .i64 (i:Int))).run Tryz.prog W= .ok (.pointer (some (adr ao i))) W:=a0A a1G ao a.length ca .i64 i hha (by omega) rfl;have i2:∀W,(Instr.indexAt 22 (.slice bo b.length cb) (.int .i64 (i:Int))).run Tryz.prog W= .ok (.pointer (some (adr bo i))) W:=a0A a1G bo b.length cb .i64 i hhb (by omega) rfl;obtain⟨x,hx⟩:∃x,a[i]=x:=⟨_,rfl⟩;obtain⟨y,hy⟩:∃y,b[i]=y:=⟨_,rfl⟩;rw[hx]at c1;rw[hy]at c2;have hx':=hid hx;have hy':=hid hy;clear hx hy;by_cases hxy:x=y
    ·have hn:Hid (∀(hp:i<a.length) (hq:i<b.length),a[i]=b[i]):=hid fun _ _=>by rw[hx'.out,hy'.out,hxy]
     have hb:((x:Int) !=(y:Int))=false:=a6k (by omega);clear hxy;go_wp2_with fail
     go_quiet (fail)
     go_wp2_with fail
     go_roundw
     case rel=>exact⟨i+1,by go_num,by omega,a3V hok.out hn.out,c0E hDq _⟩
     case measure=>simp[intOf];omega
    ·have hv:Hid ((a==b)=false):=hid (by
      cases h:a==b
      ·rfl
      ·have:=eq_of_beq h;subst this;exact absurd (hx'.out.symm.trans hy'.out) hxy)
     have hb:((x:Int) !=(y:Int))=true:=a5C (by omega);clear hxy;go_wp2_with fail
     go_quiet (fail)
     go_wp2_with fail
     go_ret
     exact⟨a0p hv.out.symm,c0E hDq _⟩
   ·have hv:Hid ((a==b)=true):=hid (by rw[a8D hlen'.out fun p hp hq=>hok.out p (by omega) hp hq];simp)
    go_wp2_with fail
    go_ret
    exact⟨a0p hv.out.symm,hDq.out⟩
 ·have hne:((a.length:Int) !=b.length)=true:=a5C (by omega)
  have hv:Hid ((a==b)=false):=hid (by
   cases h:a==b
   ·rfl
   ·have:=eq_of_beq h;subst this;exact absurd rfl hlen)
  clear hlen;go_enter Tryz.func58,Tryz.ntmps58
  go_wp2_with fail
  go_ret
  exact⟨a0p hv.out.symm,0,rfl⟩
end Go.Proofs.YtoibhmjjhgaimaaGreat
namespace Go.Lin
open Go.Lim Go.Rep Go.Proofs.YtoibhmjjhgaimaaGreat
theorem c0F {p:Mat} {d:Nat} (h1:1<=p.length) (h2:p.length<=64) (h3:1<=d) (h4:d<=3) (h:∀r∈p,r.length=d):a2k p=true/\a0l p=d:=by
 have hc:a0l p=d:=by
  unfold a0l;rw[List.getD_eq_getElem?_getD,List.getElem?_eq_getElem (by omega)];exact h _ (List.getElem_mem _)
 exact⟨a0L.2 ⟨h1,h2,by omega,by omega,fun i hi=>by rw[hc];exact h _ (List.getElem_mem _)⟩,hc⟩
theorem b9p {p us:Mat} {y:List Rat} (h:a2z p y=true) (hl:∀r∈us,r.length=a0l p):b5X p y us=true:=by
 unfold a2z at h;unfold b5X;rw[<-Bool.and_assoc,h];rw[Bool.and_eq_true,decide_eq_true_eq]at h;rw[decide_eq_true (fun i (hi:i<us.length)=>by rw[hl _ (List.getElem_mem _),h.2])];rfl
end Go.Lin
namespace Go.Proofs.YtoibhmjjhgaimaaGreat
open Go.RowKit Go.Rep Go.Lim Go.Lin
theorem b1H {tb:Nat} {w w1 w2:World} (h:w.heap.size=tb) (hE:Ext w w1) (h2:ExtX (tbm tb) w1 w2):Ext w w2:=hE.then_ h2 fun i hi _=>a2O (by omega)
open Go.ChangeShapes Go.WideShapes Go.ChangeAt Go.Deep
section
variable {H:Type} {enc:TypeId×Value->H} {w:World} {base:Nat} {spare:Nat->Bool} {held:Bool}
theorem a1d {x:Addr} {v:Value} (h:w.cell? (x.add 0)=some v):(∀j,x.add j=adr (some x) j)/\∃b off,x=⟨b,off,none⟩:=by
 have hs:=World.cell?_spot h;obtain⟨b,off,spot⟩:=x;have hspot:spot=none:=by simpa[Addr.add]using hs
 subst hspot;exact⟨fun j=>by rw[Addr.add_lit];simp[adr],b,off,rfl⟩
end
end Go.Proofs.YtoibhmjjhgaimaaGreat
namespace Go.Rep
open Go.RowKit Go.Lim
abbrev a4X:=Bool×List Nat×List Nat
def QR (h:Mem) (u:Value) (x:a4X):Prop:=∃ao c bo e,u= .agg #[.bool x.1, .slice ao x.2.1.length c, .slice bo x.2.2.length e]/\x.2.1.length<=c/\x.2.2.length<=e/\Dig x.2.1/\Dig x.2.2/\x.2.1.length<=9223372036854775807/\x.2.2.length<=9223372036854775807/\Sl (a0a .u32) 1 h ao x.2.1/\Sl (a0a .u32) 1 h bo x.2.2
theorem QR.mono:a4N QR:=by rintro h h' u x hl ⟨ao,c,bo,e,rfl,h1,h2,h3,h4,h5,h6,h7,h8⟩;exact⟨ao,c,bo,e,rfl,h1,h2,h3,h4,h5,h6,h7.mono (a0a.mono _) hl,h8.mono (a0a.mono _) hl⟩
theorem QR.elem:Elem QR 3:=⟨QR.mono,by rintro h u x ⟨ao,c,bo,e,rfl,_⟩;rfl,by
 rintro h u x ⟨ao,c,bo,e,rfl,_⟩ v hv;simp[a0g,Value.cells]at hv;rcases hv with rfl|rfl|rfl<;>rfl,by decide⟩
theorem QR.shape {h:Mem} {u:Value} {x:a4X} (hu:QR h u x):∃ao c bo e,u= .agg #[.bool x.1, .slice ao x.2.1.length c, .slice bo x.2.2.length e]:=by
 obtain⟨ao,c,bo,e,rfl,_⟩:=hu;exact⟨_,_,_,_,rfl⟩
theorem QR.agg:∀h u y,QR h u y->∃cs,u= .agg cs:=by rintro h u x ⟨ao,c,bo,e,rfl,_⟩;exact⟨_,rfl⟩
noncomputable def b6O (x:a4X):Rat:=b3g x.1 x.2.1 x.2.2
abbrev Few (k:Nat) (x:a4X):Prop:=x.2.1.length<=k/\x.2.2.length<=k
theorem QR.qv {h:Mem} {u:Value} {x:a4X} (hu:QR h u x) (hf:Few 68719476736 x):QV h u (b6O x):=by
 obtain⟨ao,c,bo,e,rfl,h1,h2,h3,h4,_,_,h7,h8⟩:=hu;exact⟨_,ao,c,_,bo,e,_,rfl,h1,h2,h3,h4,hf.1,hf.2,h7,h8,rfl⟩
theorem QR.hq {h:Mem} {u:Value} {x:a4X} {k:Nat} (hu:QR h u x) (hf:Few k x) (hk:1<=k):hq (b6O x)<=k:=by
 obtain⟨ao,c,bo,e,rfl,h1,h2,h3,h4,_,_,h7,h8⟩:=hu;exact a9F _ _ _ k h3 h4 hf.1 hf.2 hk
theorem Sl.qvR {h:Mem} {ao:Option Addr} {l:List a4X} (s:Sl QR 3 h ao l) (hf:∀x∈l,Few 68719476736 x):Sl QV 3 h ao (l.map b6O):=
 ⟨fun hp=>s.1 (by simpa using hp),fun i hi=>by
  have hi':i<l.length:=by simpa using hi
  obtain⟨u,h1,h2,h3⟩:=s.2 i hi';exact⟨u,h1,h2,by rw[List.getElem_map];exact h3.qv (hf _ (List.getElem_mem _))⟩⟩
theorem Sl.brR {h:Mem} {ao:Option Addr} {l:List a4X} {k:Nat} (s:Sl QR 3 h ao l) (hf:∀x∈l,Few k x) (hk:1<=k):BR k (l.map b6O):=fun q hq=>by
 obtain⟨x,hx,rfl⟩:=List.mem_map.1 hq;obtain⟨i,hi,rfl⟩:=List.getElem_of_mem hx;obtain⟨u,h1,h2,h3⟩:=s.2 i hi;exact h3.hq (hf _ (List.getElem_mem _)) hk
abbrev RR:Mem->Value->List a4X->Prop:=SlV QR 3
abbrev MR:Mem->Value->List (List a4X)->Prop:=SlV RR 1
theorem RR.mono:a4N RR:=SlV.mono QR.mono 3
theorem RR.elem:Elem RR 1:=SlV.elem QR.elem
theorem MR.mono:a4N MR:=SlV.mono RR.mono 1
theorem RR.rv {h:Mem} {u:Value} {l:List a4X} (hu:RR h u l) (hf:∀x∈l,Few 68719476736 x):RV h u (l.map b6O):=by
 obtain⟨ao,c,rfl,h1,h2⟩:=hu;exact⟨ao,c,by rw[List.length_map],by rw[List.length_map];exact h1,h2.qvR hf⟩
theorem RR.br {h:Mem} {u:Value} {l:List a4X} {k:Nat} (hu:RR h u l) (hf:∀x∈l,Few k x) (hk:1<=k):BR k (l.map b6O):=by
 obtain⟨ao,c,rfl,h1,h2⟩:=hu;exact h2.brR hf hk
noncomputable def b2x (m:List (List a4X)):List (List Rat):=m.map fun r=>r.map b6O
theorem MR.mv {h:Mem} {u:Value} {m:List (List a4X)} (hu:MR h u m) (hf:∀r∈m,∀x∈r,Few 68719476736 x):MV h u (b2x m):=by
 obtain⟨ao,c,rfl,h1,h2⟩:=hu;refine⟨ao,c,by rw[b2x,List.length_map],by rw[b2x,List.length_map];exact h1,fun hp=>h2.1 (by simpa[b2x]using hp),fun i hi=>?_⟩;have hi':i<m.length:=by simpa[b2x]using hi
 obtain⟨u,k1,k2,k3⟩:=h2.2 i hi';exact⟨u,k1,k2,by simp only[b2x,List.getElem_map];exact RR.rv k3 (hf _ (List.getElem_mem _))⟩
theorem MR.bm {h:Mem} {u:Value} {m:List (List a4X)} {k:Nat} (hu:MR h u m) (hf:∀r∈m,∀x∈r,Few k x) (hk:1<=k):BM k (b2x m):=fun r hr=>by
 obtain⟨ao,c,rfl,h1,h2⟩:=hu;obtain⟨y,hy,rfl⟩:=List.mem_map.1 hr;obtain⟨i,hi,rfl⟩:=List.getElem_of_mem hy;obtain⟨u,k1,k2,k3⟩:=h2.2 i hi;exact RR.br k3 (hf _ (List.getElem_mem _)) hk
end Go.Rep
namespace Go.Proofs.YtoibhmjjhgaimaaGreat
open Go.ChangeShapes Go.WideShapes Go.ChangeAt Go.RowKit Go.Rep Go.Deep Go.Lim
section
variable {H:Type} {enc:TypeId×Value->H} {w:World} {base:Nat} {spare:Nat->Bool} {held:Bool}
theorem b1I {α:Type} {R:Mem->Value->α->Prop} {t e:TypeId} {sz:Nat} (ht:Tryz.prog.underlying t=some (.slice e)) (hC:Tryz.prog.cellsOf e=sz) (hz:0<sz) (hsize:∀h u x,R h u x->u.cells.size=sz)
  (hel:∀(n:Nat) (cs:List Value) (y:DataW H×List MemPlace),cs.length=sz->DataW.trod enc Tryz.prog w base spare held n e cs=some y->∃u x,a0g u=cs/\R w.cell? u x)
  {fuel:Nat} {v:Value} {x:DataW H×List MemPlace} (h:DataW.trod enc Tryz.prog w base spare held fuel t [v]=some x):
  ∃(a:Option Addr) (L:List α) (cap:Nat),v= .slice a L.length cap/\L.length<=cap/\cap<=9223372036854775807/\Sl R sz w.cell? a L:=by
 rcases open_slice ht h with⟨hcs,_⟩|⟨x,len,c,m,n,D,Pl,hcs,_,hl,hm,hmm,_,hi⟩
 ·exact⟨none,[],0,by simpa using hcs,by simp,by simp,Sl.nil _ _ _ _⟩
 ·have hml:len<=m:=by rw[hmm];split<;>omega
  have hmax:c<=9223372036854775807:=by simpa[maxLen]using hm
  have key:∀k,k<=len->∃L:List α,L.length=k/\∀i (hi:i<L.length),∃u,u.cells.size=sz/\(∀j (hj:j<u.cells.size),w.cell? (x.add (i*sz+j))=some u.cells[j])/\R w.cell? u L[i]:=by
   intro k
   induction k with
   |zero=>intro _;exact⟨[],rfl,by simp⟩
   |succ k ih=>
    intro hk;obtain⟨L,h1,h3⟩:=ih (by omega);obtain⟨cs',hc,ht'⟩:=hi k (by omega);rw[hC]at hc;obtain⟨_,hcl,hat⟩:=World.cells?_some hc;obtain⟨u,y,hu,hR⟩:=hel n cs' _ hcl ht';refine⟨L++[y],by simp[h1],fun i hi=>?_⟩;by_cases hik:i<L.length
    ·obtain⟨u,q1,q2,q3⟩:=h3 i hik
     exact⟨u,q1,q2,by simpa[List.getElem_append_left hik]using q3⟩
    ·have hik2:i=k:=by simp at hi;omega
     subst hik2;refine⟨u,hsize _ _ _ hR,fun j hj=>?_,?_⟩
     ·have hj2:j<sz:=by rw[hsize _ _ _ hR]at hj;exact hj
      have h5:=hat j (by omega);rw[Go.Deep.add_add]at h5;rw[h5];have h6:cs'[j]? =(a0g u)[j]?:=by rw[hu]
      rw[h6];simp[a0g,hj]
     ·simp only[h1.symm,List.getElem_concat_length]
      exact hR
  obtain⟨L,h1,h3⟩:=key len (Nat.le_refl _);refine⟨some x,L,c,by rw[h1];simpa using hcs,by omega,by omega,⟨fun h0=>?_,fun i hi=>?_⟩⟩
  ·obtain⟨u,q1,q2,_⟩:=h3 0 h0
   obtain⟨_,b,off,hx⟩:=a1d (by simpa using q2 0 (by omega));exact⟨b,off,by rw[hx]⟩
  ·obtain⟨u,q1,q2,q3⟩:=h3 i hi
   obtain⟨v,p1,p2,_⟩:=h3 0 (by omega);have ha:=(a1d (by simpa using p2 0 (by omega))).1;exact⟨u,q1,fun j hj=>by rw[<-ha];exact q2 j hj,q3⟩
theorem b4O {fuel:Nat} {v:Value} {x:DataW H×List MemPlace} (h:DataW.trod enc Tryz.prog w base spare held fuel 28 [v]=some x):
  ∃(a:Option Addr) (l:List Nat) (cap:Nat),v= .slice a l.length cap/\l.length<=cap/\l.length<=9223372036854775807/\Dig l/\Sl (a0a .u32) 1 w.cell? a l:=by
 rcases open_ints Tryz.underlying28 Tryz.underlying110 (by kernel_rfl) h with⟨hcs,_⟩|⟨x,len,c,zs,hcs,_,hl,hm,hz,_,hcell,hwf⟩
 ·exact⟨none,[],0,by simpa using hcs,by simp,by simp,by simp[Dig],Sl.nil _ _ _ _⟩
 ·have hzl:len<=zs.length:=by
   rw[hz];split<;>omega
  have hr:∀n∈zs,0<=n/\n<4294967296:=fun n hn=>by
   have:=hwf n hn;unfold Lit.wf at this;have:0<=n/\n<=4294967295:=by simpa[IntKind.min,IntKind.max,IntKind.signed,IntKind.bits]using this
   omega
  have hlen:((zs.take len).map Int.toNat).length=len:=by simp;omega
  have hmax:c<=9223372036854775807:=by simpa[maxLen]using hm
  refine⟨some x,(zs.take len).map Int.toNat,c,by rw[hlen];simpa using hcs,by omega,by omega,fun d hd=>?_,fun h0=>?_,fun i hi=>?_⟩
  ·obtain⟨z,hz1,rfl⟩:=List.mem_map.1 hd
   have:=hr z (List.mem_of_mem_take hz1);rw[a1j];omega
  ·obtain⟨_,b,off,hx⟩:=a1d (hcell 0 (by omega))
   exact⟨b,off,by rw[hx]⟩
  ·have hi':i<zs.length:=by omega
   have hil:i<len:=by omega
   refine⟨.int .u32 (((zs.take len).map Int.toNat)[i]:Nat),rfl,fun j hj=>?_,rfl⟩;have hj0:j=0:=by simp[Value.cells]at hj;exact hj
   subst hj0;have h1:=hcell i hi';have h2:=(a1d (hcell 0 (by omega))).1 i;rw[h2]at h1;have h3:=hr zs[i] (List.getElem_mem _);simp only[Nat.mul_one,Nat.add_zero,List.getElem_map,List.getElem_take];rw[h1];simp[List.getD_eq_getElem?_getD,hi',Value.cells];omega
theorem c0G {fuel:Nat} {cs:List Value} {x:DataW H×List MemPlace} (hl:cs.length=3) (h:DataW.trod enc Tryz.prog w base spare held fuel 32 cs=some x):∃u y,a0g u=cs/\QR w.cell? u y:=by
 obtain⟨ys,n',hn',hy,hlen,hyl,hf⟩:=DataW.trod_struct Tryz.underlying32 h;have c1:Tryz.prog.cellsOf 30=2:=by kernel_rfl
 have c2:Tryz.prog.cellsOf 28=1:=by kernel_rfl
 have c3:Tryz.prog.cellsOf 4=1:=by kernel_rfl
 have f0:DataW.trod enc Tryz.prog w base spare held n' 30 ((cs.drop 0).take (Tryz.prog.cellsOf 30))=ys[0]?:=hf 0 _ rfl;have f1:DataW.trod enc Tryz.prog w base spare held n' 28 ((cs.drop 2).take (Tryz.prog.cellsOf 28))=ys[1]?:=hf 1 _ rfl;have hyl2:ys.length=2:=hyl;obtain⟨a,b,c,rfl⟩:∃a b c,cs= [a,b,c]:=by
  rcases cs with _|⟨a,_|⟨b,_|⟨c,_|⟨d,r⟩⟩⟩⟩
  ·simp at hl
  ·simp at hl
  ·simp at hl
  ·exact⟨a,b,c,rfl⟩
  ·simp at hl
 rw[c1]at f0;rw[c2]at f1;rw[List.getElem?_eq_getElem (by omega)]at f0 f1;obtain⟨zs,n2,_,_,_,hzl,hg⟩:=DataW.trod_struct Tryz.underlying30 f0;have g0:DataW.trod enc Tryz.prog w base spare held n2 4 (([a,b].drop 0).take (Tryz.prog.cellsOf 4))=zs[0]?:=hg 0 _ rfl;have g1:DataW.trod enc Tryz.prog w base spare held n2 28 (([a,b].drop 1).take (Tryz.prog.cellsOf 28))=zs[1]?:=hg 1 _ rfl;have hzl2:zs.length=2:=hzl;rw[c3]at g0;rw[c2]at g1;rw[List.getElem?_eq_getElem (by omega)]at g0 g1;obtain⟨a1,m,k1,e1,p1,p2,p3,p4⟩:=b4O g1;obtain⟨a2,d,k2,e2,q1,q2,q3,q4⟩:=b4O f1;obtain⟨s,hs,_⟩:=DataW.trod_bool Tryz.underlying4 g0;have hs:a= .bool s:=by simpa using hs
 subst hs e1 e2;exact⟨.agg #[.bool s, .slice a1 m.length k1, .slice a2 d.length k2],(s,m,d),rfl,a1,k1,a2,k2,rfl,p1,q1,p3,q3,p2,q2,p4,q4⟩
theorem b0l {fuel:Nat} {v:Value} {x:DataW H×List MemPlace} (h:DataW.trod enc Tryz.prog w base spare held fuel 45 [v]=some x):
  ∃(a:Option Addr) (L:List a4X) (cap:Nat),v= .slice a L.length cap/\L.length<=cap/\cap<=9223372036854775807/\Sl QR 3 w.cell? a L:=
 b1I (R:=QR) Tryz.underlying45 (by kernel_rfl) (by decide) QR.elem.size (fun _ _ _ hl h=>c0G hl h) h
theorem b1J {fuel:Nat} {v:Value} {x:DataW H×List MemPlace} (h:DataW.trod enc Tryz.prog w base spare held fuel 25 [v]=some x):
  ∃(a:Option Addr) (L:List (List a4X)) (cap:Nat),v= .slice a L.length cap/\L.length<=cap/\cap<=9223372036854775807/\Sl RR 1 w.cell? a L:=
 b1I (R:=RR) Tryz.underlying25 (by kernel_rfl) (by decide) RR.elem.size (fun _ cs _ hl h=>by
  match cs,hl with
  | [a],_=>
   obtain⟨ao,L,cap,rfl,h1,h2,h3⟩:=b0l h;exact⟨.slice ao L.length cap,L,rfl,ao,cap,rfl,h1,h3⟩) h
end
end Go.Proofs.YtoibhmjjhgaimaaGreat
namespace Go.Rep
open Go.RowKit Go.Lim
theorem Sl.raw {X:Nat->Bool} {w:World} {ao:Option Addr} {l:List a4X} (s:Sl QR 3 (mk X w) ao l) (i:Nat) (hi:i<l.length):
  ∃g o a c d e,adr ao (i*3)=⟨g,o,none⟩/\X g=false/\Hid (∀Y W',ExtX Y w W'->Y g=false->W'.cell? ⟨g,o,none⟩=some (.bool l[i].1)/\W'.cell? ⟨g,o+1,none⟩=some (.slice a l[i].2.1.length c)/\W'.cell? ⟨g,o+2,none⟩=some (.slice d l[i].2.2.length e))/\QR (mk X w) (.agg #[.bool l[i].1, .slice a l[i].2.1.length c, .slice d l[i].2.2.length e]) l[i]:=by
 obtain⟨u,h1,h2,h3⟩:=s.2 i hi;obtain⟨a,c,d,e,rfl⟩:=h3.shape;have c0:=h2 0 (by simp[Value.cells]);have c1:=h2 1 (by simp[Value.cells]);have c2:=h2 2 (by simp[Value.cells]);refine⟨(adr ao (i*3)).block,(adr ao (i*3)).off,a,c,d,e,rfl,?_,hid fun Y W' hE hY=>⟨?_,?_,?_⟩,h3⟩
 ·cases hx:X (adr ao (i*3)).block
  ·rfl
  ·have c9:mk X w (adr ao (i*3))=some (.bool l[i].1):=c0
   simp[mk,hx]at c9
 ·exact hE.cellY (a1u c0) hY
 ·exact hE.cellY (a1u c1) hY
 ·exact hE.cellY (a1u c2) hY
theorem Sl.rowR {α:Type} {R:Mem->Value->α->Prop} {sz:Nat} {X:Nat->Bool} {w:World} {ao:Option Addr} {m:List (List α)} (s:Sl (SlV R sz) 1 (mk X w) ao m) (i:Nat) (hi:i<m.length):
  ∃a c,X (adr ao i).block=false/\Hid (∀Y W',ExtX Y w W'->Y (adr ao i).block=false->W'.cell? (adr ao i)=some (.slice a m[i].length c))/\m[i].length<=c/\Sl R sz (mk X w) a m[i]:=by
 obtain⟨u,h1,a,c,rfl,h2,h3⟩:=s.cell SlV.one i hi;refine⟨a,c,?_,hid fun Y W' hE hY=>hE.cellY (a1u h1) hY,h2,h3⟩;cases hx:X (adr ao i).block
 ·rfl
 ·simp[mk,hx]at h1
theorem Few.dec {k n m:Nat} {x:a4X} (h1:x.2.1.length=n) (h2:x.2.2.length=m):(decide (n<=k)&&decide (m<=k))=true↔Few k x:=by
 rw[Bool.and_eq_true,decide_eq_true_eq,decide_eq_true_eq];subst h1 h2;exact Iff.rfl
end Go.Rep
namespace Go.Proofs.YtoibhmjjhgaimaaGreat
open Go.RowKit Go.Rep Go.Lim
set_option maxRecDepth 100000 in
theorem a7O (w:World) (s:Bool) (ao bo:Option Addr) (n c k e:Nat):Calls Tryz.prog 69 #[.agg #[.bool s, .slice ao n c, .slice bo k e]] w (a7A w (decide (n<=8)&&decide (k<=8))):=by
 obtain⟨W,hW,hE,b0,hz⟩:=a1I w #[.bool s, .slice ao n c, .slice bo k e] 32;obtain⟨b,hb⟩:∃b,w.heap.size=b:=⟨_,rfl⟩;rw[hb]at b0 hz;have k00:=b0.cell 0 rfl;have k01:=b0.cell 1 rfl;have k02:=b0.cell 2 rfl;clear hz;by_cases h1:n<=8
 ·have h1':(n:Int)<=8:=by omega
  by_cases h2:k<=8
  ·have h2':(k:Int)<=8:=by omega
   have hr:=hid (show true=(decide (n<=8)&&decide (k<=8))by simp[h1,h2]);clear h1 h2;go_enter Tryz.func69,Tryz.ntmps69
   go_wp2_with fail
   go_ret
   exact⟨hE,a0p hr.out⟩
  ·have h2':¬(k:Int)<=8:=by omega
   have hr:=hid (show false=(decide (n<=8)&&decide (k<=8))by simp[h2]);clear h1 h2;go_enter Tryz.func69,Tryz.ntmps69
   go_wp2_with fail
   go_ret
   exact⟨hE,a0p hr.out⟩
 ·have h1':¬(n:Int)<=8:=by omega
  have hr:=hid (show false=(decide (n<=8)&&decide (k<=8))by simp[h1]);clear h1;go_enter Tryz.func69,Tryz.ntmps69
  go_wp2_with fail
  go_ret
  exact⟨hE,a0p hr.out⟩
def lightL (l:List a4X) (most:Nat):Bool:=decide (l.length<=most/\∀x∈l,Few 8 x)
def lightM (m:List (List a4X)) (r c:Nat):Bool:=decide (m.length<=r/\∀x∈m,lightL x c=true)
set_option maxRecDepth 100000 in
theorem a3x (X:Nat->Bool) (w:World) (u:Value) (l:List a4X) (most:Nat) (hu:RR (mk X w) u l) (hm:most<=1000):Calls Tryz.prog 25 #[u, .int .i64 (most:Int)] w (a7A w (lightL l most)):=by
 obtain⟨ao,ca,rfl,hca,hsa⟩:=hu;have hh:=hsa.hd;by_cases hl:l.length<=most
 ·have hng:¬(most:Int)<(l.length:Int):=by omega
  have hyes:Hid ((∀p (hp:p<l.length),Few 8 l[p])->lightL l most=true):=hid fun h=>decide_eq_true ⟨hl,fun x hx=>by obtain⟨p,hp,rfl⟩:=List.getElem_of_mem hx;exact h p hp⟩;have hno:Hid (∀p (hp:p<l.length),¬Few 8 l[p]->lightL l most=false):=hid fun p hp h=>decide_eq_false fun h2=>h (h2.2 _ (List.getElem_mem _));obtain⟨n,hn⟩:∃n,l.length=n:=⟨_,rfl⟩;have hn':=hid hn;have hn6:n<=1000:=by omega
  rw[hn]at hh hng |-;clear hl hn hca;go_enter Tryz.func25,Tryz.ntmps25
  go_wp2_with fail
  go_loopw [5] (fun c wr=>∃i:Nat,c= .int .i64 i/\i<=n/\Hid (∀p (hp:p<l.length),p<i->Few 8 l[p])/\Ext w wr) (fun c _=>n - (intOf c).toNat)
  case atStart=>exact⟨0,rfl,Nat.zero_le _,hid (fun p hp h=>by omega),ExtX.refl _⟩
  case round=>
   obtain⟨i,rfl,hi,hok,hE⟩:=hrel;by_cases hlt:i<n
   ·have hil:i<l.length:=by rw[hn'.out];exact hlt
    have hsr:=hsa.mono QR.mono (a0m hE);obtain⟨g,o,a,c,d,e,_,_,_,hq⟩:=hsr.raw i hil;by_cases hf:Few 8 l[i]
    ·have hL:Hid ((decide (l[i].2.1.length<=8)&&decide (l[i].2.2.length<=8))=true):=hid ((Few.dec rfl rfl).2 hf)
     have hok2:Hid (∀p (hp:p<l.length),p<i+1->Few 8 l[p]):=hid fun p hp hpi=>by
      by_cases h:p=i
      ·subst h;exact hf
      ·exact hok.out p hp (by omega)
     clear hf;go_wp2_with (first|(with_reducible refine a1E a0J (by omega) (by assumption) ?_)|((with_reducible show wpList _ _ _ (⟨_, .load 32 _,_,_,_,_⟩::_) _ _);refine a0W a0w i hsr hil rfl (by simp) QR.agg ?_;intro u5 hu5;obtain⟨a5,c5,d5,e5,rfl⟩:=hu5.shape))
     refine(a7O wr _ _ _ _ _ _ _).mono ?_;rintro ee w5 ⟨hE5,rfl⟩;rw[hL.out];go_wp2_with fail
     go_roundw
     case rel=>exact⟨i+1,by go_num,by omega,hok2,hE.trans hE5⟩
     case measure=>simp[intOf];omega
    ·have hL:Hid ((decide (l[i].2.1.length<=8)&&decide (l[i].2.2.length<=8))=false):=hid (by
      cases hb:(decide (l[i].2.1.length<=8)&&decide (l[i].2.2.length<=8))
      ·rfl
      ·exact absurd ((Few.dec rfl rfl).1 hb) hf)
     have hr:=hid (hno.out i hil hf).symm;clear hf;go_wp2_with (first|(with_reducible refine a1E a0J (by omega) (by assumption) ?_)|((with_reducible show wpList _ _ _ (⟨_, .load 32 _,_,_,_,_⟩::_) _ _);refine a0W a0w i hsr hil rfl (by simp) QR.agg ?_;intro u5 hu5;obtain⟨a5,c5,d5,e5,rfl⟩:=hu5.shape))
     refine(a7O wr _ _ _ _ _ _ _).mono ?_;rintro ee w5 ⟨hE5,rfl⟩;rw[hL.out];go_wp2_with fail
     go_ret
     exact⟨hE.trans hE5,a0p hr.out⟩
   ·have hr:=hid (hyes.out fun p hp=>hok.out p hp (by rw[hn'.out]at hp;omega)).symm
    have hin:i=n:=by omega
    subst hin;go_wp2_with fail
    go_ret
    exact⟨hE,a0p hr.out⟩
 ·have hg:(most:Int)<(l.length:Int):=by omega
  have hr:Hid (false=lightL l most):=hid (decide_eq_false fun h=>hl h.1).symm;clear hl;go_enter Tryz.func25,Tryz.ntmps25
  go_wp2_with fail
  go_ret
  exact⟨ExtX.refl _,a0p hr.out⟩
set_option maxRecDepth 100000 in
theorem a6h (X:Nat->Bool) (w:World) (u:Value) (m:List (List a4X)) (r c:Nat) (hu:MR (mk X w) u m) (hr:r<=1000) (hc:c<=1000):Calls Tryz.prog 24 #[u, .int .i64 (r:Int), .int .i64 (c:Int)] w (a7A w (lightM m r c)):=by
 obtain⟨ao,ca,rfl,hca,hsa⟩:=hu;have hh:=hsa.hd;by_cases hl:m.length<=r
 ·have hng:¬(r:Int)<(m.length:Int):=by omega
  have hyes:Hid ((∀p (hp:p<m.length),lightL m[p] c=true)->lightM m r c=true):=hid fun h=>decide_eq_true ⟨hl,fun x hx=>by obtain⟨p,hp,rfl⟩:=List.getElem_of_mem hx;exact h p hp⟩;have hno:Hid (∀p (hp:p<m.length),lightL m[p] c=false->lightM m r c=false):=hid fun p hp h=>decide_eq_false fun h2=>by have:=h2.2 _ (List.getElem_mem hp);rw[h]at this;simp at this
  obtain⟨n,hn⟩:∃n,m.length=n:=⟨_,rfl⟩;have hn':=hid hn;have hn6:n<=1000:=by omega
  rw[hn]at hh hng |-;clear hl hn hca;go_enter Tryz.func24,Tryz.ntmps24
  go_wp2_with fail
  go_loopw [7] (fun cc wr=>∃i:Nat,cc= .int .i64 i/\i<=n/\Hid (∀p (hp:p<m.length),p<i->lightL m[p] c=true)/\Ext w wr) (fun cc _=>n - (intOf cc).toNat)
  case atStart=>exact⟨0,rfl,Nat.zero_le _,hid (fun p hp h=>by omega),ExtX.refl _⟩
  case round=>
   obtain⟨i,rfl,hi,hok,hE⟩:=hrel;by_cases hlt:i<n
   ·have hil:i<m.length:=by rw[hn'.out];exact hlt
    have hsr:=hsa.mono RR.mono (a0m hE);obtain⟨a1,c1,hX1,hc1,hcl1,hq1⟩:=hsr.rowR i hil;have k00:=hc1.out noY wr (ExtX.refl _) rfl;have hll:=a3x X wr (.slice a1 m[i].length c1) m[i] c ⟨a1,c1,rfl,hcl1,hq1⟩ hc;clear hc1 hq1;cases hf:lightL m[i] c
    ·rw[hf]at hll
     have hr:=hid (hno.out i hil hf).symm;clear hf;go_wp2_with (with_reducible refine a0n a0o (by omega) (by assumption) ?_)
     refine hll.mono ?_;rintro ee w5 ⟨hE5,rfl⟩;clear k00;go_wp2_with fail
     go_ret
     exact⟨hE.trans hE5,a0p hr.out⟩
    ·rw[hf]at hll
     have hok2:Hid (∀p (hp:p<m.length),p<i+1->lightL m[p] c=true):=hid fun p hp hpi=>by
      by_cases h:p=i
      ·subst h;exact hf
      ·exact hok.out p hp (by omega)
     clear hf;go_wp2_with (with_reducible refine a0n a0o (by omega) (by assumption) ?_)
     refine hll.mono ?_;rintro ee w5 ⟨hE5,rfl⟩;clear k00;go_wp2_with fail
     go_roundw
     case rel=>exact⟨i+1,by go_num,by omega,hok2,hE.trans hE5⟩
     case measure=>simp[intOf];omega
   ·have hr:=hid (hyes.out fun p hp=>hok.out p hp (by rw[hn'.out]at hp;omega)).symm
    have hin:i=n:=by omega
    subst hin;go_wp2_with fail
    go_ret
    exact⟨hE,a0p hr.out⟩
 ·have hg:(r:Int)<(m.length:Int):=by omega
  have hr:Hid (false=lightM m r c):=hid (decide_eq_false fun h=>hl h.1).symm;clear hl;go_enter Tryz.func24,Tryz.ntmps24
  go_wp2_with fail
  go_ret
  exact⟨ExtX.refl _,a0p hr.out⟩
end Go.Proofs.YtoibhmjjhgaimaaGreat
