/- reference 03: Div, Same. Conditions: at most 2^36 digits. reference 03: Same. Conditions: at most 2^36 digits. reference 03: SameList, SameLists. Conditions: at most 2^36 digits. reference 03: SameLists. Conditions: at most 2^36 digits. law 06: awake. Conditions: none. law 26: SimplicialLimits. Conditions: none. -/
import Derived.Test.YtoibhmjjhgaimaaGreatSaSMedRowxA
namespace Go.Proofs.YtoibhmjjhgaimaaGreat
open Go.RowKit Go.Rep Go.Lim
set_option maxRecDepth 100000 in
theorem c2d (X:Nat->Bool) (w:World) (u v:Value) (x y:Rat) (hX:HX X w) (hu:QV (mk X w) u x) (hv:QV (mk X w) v y):Calls Tryz.prog 191 #[u,v] w (b8q X w (x/y) (e5 (decide (y=0)))):=by
 have hlx:=hid hu.hq;have hly:=hid hv.hq;obtain⟨s1,a1,n1,c1,d1,k1,e1,rfl⟩:=hu.shape;obtain⟨s2,a2,n2,c2,d2,k2,e2,rfl⟩:=hv.shape;obtain⟨W,hW,hE,b0,b1,b2,hz⟩:=a2B w #[.bool s1, .slice a1 n1 c1, .slice d1 k1 e1] #[.bool s2, .slice a2 n2 c2, .slice d2 k2 e2] #[.bool false, .slice none 0 0, .slice none 0 0] 32 32 32;have hXW:HX (a0e X w.heap.size 3) W:=hX.boxes hz;have hu1:=QV.mono _ _ _ _ (a0q (nb:=3) hE) hu;have hv1:=QV.mono _ _ _ _ (a0q (nb:=3) hE) hv;obtain⟨b,hb⟩:∃b,w.heap.size=b:=⟨_,rfl⟩;have hbw:w.heap.size<=b:=by omega
 rw[hb]at b0 b1 b2 hz hXW hu1 hv1;have hEd:Ext W W.drew:=(ExtX.refl W).drew;have hXd:HX (a0e X b 3) W.drew:=hXW;have hud:QV (mk (a0e X b 3) W.drew) (.agg #[.bool s1, .slice a1 n1 c1, .slice d1 k1 e1]) x:=hu1;have hvd:QV (mk (a0e X b 3) W.drew) (.agg #[.bool s2, .slice a2 n2 c2, .slice d2 k2 e2]) y:=hv1;have k00:=b0.cell 0 rfl;have k01:=b0.cell 1 rfl;have k02:=b0.cell 2 rfl;have k10:=b1.cell 0 rfl;have k11:=b1.cell 1 rfl;have k12:=b1.cell 2 rfl;clear hu hv;obtain⟨ec,hec'⟩:∃ec:Int,e5 (decide (y=0))=ec:=⟨_,rfl⟩;obtain⟨q,hq'⟩:∃q:Rat,x/y=q:=⟨_,rfl⟩;rw[hec',hq'];clear hEd hXd hud hvd;go_enter Tryz.func191,Tryz.ntmps191
 go_wp2_with fail
 refine(a6f (a0e X b 3) W _ y hXW hv1).mono ?_;rintro e w5 ⟨hE5,rfl⟩;have bb0:=b0.ext0 hE5;have bb1:=b1.ext0 hE5;have bb2:=b2.ext0 hE5;clear k00 k01 k02 k10 k11 k12;by_cases h0:y=0
 ·have hec:Hid ((5:Int)=ec):=hid (by rw[<-hec',decide_eq_true h0];rfl)
  have hres:Hid ((0:Rat)=q):=hid (by rw[<-hq',h0,Rat.div_def,Rat.inv_zero,Rat.mul_zero]);have hI:(y.num.sign==0)=true:=by rw[h0];rfl
  generalize y.num.sign=sgy at*;clear h0 hec' hq';go_wp2_with ((with_reducible show wpList _ _ _ (⟨_, .store _ _ _,_,_,_,_⟩::_) _ _);refine a0c a0w rfl rfl bb2 rfl rfl (a2C _ _ _ _ _ _ _) ?_;intro w7 r1 r2)
  exact bodyPost_ret (a1z rfl rfl a0w r1 rfl) rfl ⟨ExtX.box (hE.trans hE5) r2 (by omega),_,by rw[<-hec.out];rfl,by rw[<-hres.out];exact QC.zero _⟩
 ·have hec:Hid ((0:Int)=ec):=hid (by rw[<-hec',decide_eq_false h0];rfl)
  have hI:(y.num.sign==0)=false:=by
   rw[beq_eq_false_iff_ne];intro h;exact h0 (Rat.num_eq_zero.1 (Int.sign_eq_zero_iff_zero.1 h))
  have hy0:=hid h0;have hqq:=hid hq';generalize y.num.sign=sgy at*;have k00:=bb0.cell 0 rfl;have k01:=bb0.cell 1 rfl;have k02:=bb0.cell 2 rfl;have k10:=bb1.cell 0 rfl;have k11:=bb1.cell 1 rfl;have k12:=bb1.cell 2 rfl;clear h0 hec' hq';go_wp2_with fail
  refine(c0b (a0e X b 3) w5 _ _ x y (hXW.ext hE5) (mkx QV.mono hu1 hE5) (mkx QV.mono hv1 hE5) hy0.out).mono ?_;rintro e w6 ⟨hE6,u6,rfl,hu6⟩;obtain⟨s5,a5,n5,c5,d5,k5,e5,rfl⟩:=hu6.shape;rw[hqq.out]at hu6;have bb3:=bb2.ext0 hE6;clear k00 k01 k02 k10 k11 k12;go_wp2_with ((with_reducible show wpList _ _ _ (⟨_, .store _ _ _,_,_,_,_⟩::_) _ _);refine a0c a0w rfl rfl bb3 rfl rfl (a2C _ _ _ _ _ _ _) ?_;intro w7 r1 r2)
  have h7:=QC.mono _ _ _ _ a0k (QC.mono _ _ _ _ (a0i r2 (by omega) (by omega)) hu6);exact bodyPost_ret (a1z rfl rfl a0w r1 rfl) rfl ⟨ExtX.box (hE.trans (hE5.trans hE6)) r2 (by omega),_,by rw[<-hec.out];rfl,h7⟩
set_option maxRecDepth 100000 in
theorem c1M (X:Nat->Bool) (w:World) (u v:Value) (x y:Rat) (hu:QC (mk X w) u x) (hv:QC (mk X w) v y) (hx:hq x<=68719476736):Calls Tryz.prog 34 #[u,v] w (a7A w (decide (x=y))):=by
 replace hx:=hid hx
 obtain⟨s1,a1,n1,c1,d1,k1,e1,rfl⟩:=hu.shape;obtain⟨s2,a2,n2,c2,d2,k2,e2,rfl⟩:=hv.shape;obtain⟨W,hW,hE,b0,b1,hz⟩:=a2a w #[.bool s1, .slice a1 n1 c1, .slice d1 k1 e1] #[.bool s2, .slice a2 n2 c2, .slice d2 k2 e2] 32 32;have hu1:=mkx QC.mono hu hE;have hv1:=mkx QC.mono hv hE;obtain⟨b,hb⟩:∃b,w.heap.size=b:=⟨_,rfl⟩;rw[hb]at b0 b1 hz;have k00:=b0.cell 0 rfl;have k01:=b0.cell 1 rfl;have k02:=b0.cell 2 rfl;have k10:=b1.cell 0 rfl;have k11:=b1.cell 1 rfl;have k12:=b1.cell 2 rfl;clear hu hv;obtain⟨hxz,_,hxd⟩:=hu1.num;obtain⟨hyz,_,hyd⟩:=hv1.num;have hl1:=hid (Nat.le_trans (a0F x) (Nat.le_trans hx.out (by decide:(68719476736:Nat)<=1099511627776)));have hl2:=hid (Nat.le_trans (b7Q x) (Nat.le_trans hx.out (by decide:(68719476736:Nat)<=1099511627776)));by_cases h1:x.num=y.num
 ·have hr:Hid (decide (dn x=dn y)=decide (x=y)):=hid (by
   rw[Bool.eq_iff_iff,decide_eq_true_eq,decide_eq_true_eq];constructor
   ·intro h
    refine Rat.ext h1 ?_;have:=a4a x;have:=a4a y;unfold dn at h;have:=x.den_nz;have:=y.den_nz;split at h<;>split at h<;>omega
   ·rintro rfl;rfl)
  have hd:Hid (decide (x.num=y.num)=true):=hid (decide_eq_true h1);clear h1;go_enter Tryz.func34,Tryz.ntmps34
  go_wp2_with fail
  refine(b7h X W _ _ _ _ hxz hyz hl1.out).mono ?_;rintro e w5 ⟨hE5,rfl⟩;rw[hd.out];have j02:=(b0.ext0 hE5).cell 2 rfl;have j12:=(b1.ext0 hE5).cell 2 rfl;clear k00 k01 k02 k10 k11 k12;go_wp2_with fail
  refine(b7f X w5 _ _ _ _ (mkx NC.mono hxd hE5) (mkx NC.mono hyd hE5) hl2.out).mono ?_;rintro e w6 ⟨rfl,m,rfl⟩;go_wp2_with fail
  go_ret
  exact⟨(hE.trans hE5).drewN m,a0p hr.out⟩
 ·have hr:Hid (false=decide (x=y)):=hid (decide_eq_false (by rintro rfl;exact h1 rfl)).symm
  have hd:Hid (decide (x.num=y.num)=false):=hid (decide_eq_false h1);clear h1;go_enter Tryz.func34,Tryz.ntmps34
  go_wp2_with fail
  refine(b7h X W _ _ _ _ hxz hyz hl1.out).mono ?_;rintro e w5 ⟨hE5,rfl⟩;rw[hd.out];clear k00 k01 k02 k10 k11 k12;go_wp2_with fail
  go_ret
  exact⟨hE.trans hE5,a0p hr.out⟩
theorem b9w {a b:List Rat} (hl:a.length=b.length) (h:∀p,p<a.length->∀(hp:p<a.length) (hq:p<b.length),a[p]=b[p]):a=b:=List.ext_getElem hl fun i h1 h2=>h i h1 h1 h2
theorem b9r {a b:List (List Rat)} (hl:a.length=b.length) (h:∀p,p<a.length->∀(hp:p<a.length) (hq:p<b.length),a[p]=b[p]):a=b:=List.ext_getElem hl fun i h1 h2=>h i h1 h1 h2
end Go.Proofs.YtoibhmjjhgaimaaGreat
namespace Go.Lin
open Go.Lim
theorem c1N:a0N [[0,2],[1,1]] 2=([[1,0],[0,1]],[0,1]):=by decide+kernel
theorem b4R {n:Nat} (h:n<4294967296):lg n<=1:=by
 by_cases h0:n=0
 ·subst h0;simp[a5J]
 ·rw[a2F (by omega) h];exact Nat.le_refl _
theorem b6Q {z:Int} (h:z.natAbs<4294967296):hq (z:Rat)<=1:=a6G z 1 (b4R h) (Nat.le_refl _)
theorem BM.hb {B:Nat} {m:Mat} (h:Go.Rep.BM B m) (hB:1<=B):HB B m:=fun i j=>by
 unfold ent;by_cases hi:i<m.length
 ·by_cases hj:j<(m[i]).length
  ·have:=h m[i] (List.getElem_mem _) (m[i])[j] (List.getElem_mem _)
   simpa[List.getD_eq_getElem?_getD,hi,hj]using this
  ·rw[a2p hi,List.getD_eq_getElem?_getD,List.getElem?_eq_none (by omega)]
   simpa[a1p]using hB
 ·rw[List.getD_eq_getElem?_getD (l:=m),List.getElem?_eq_none (by omega)]
  simpa[a1p]using hB
end Go.Lin
namespace Go.Rep
open Go.RowKit Go.Lim
theorem c1s {X:Nat->Bool} {w:World} {e:TypeId} (hX:HX X w) {u v:Value} {x y:Rat} (hu:QC (mk X w) u x) (hv:QC (mk X w) v y) {arr:Array Value} (harr:arr=(a0g u++a0g v).toArray):RC (mk X (w.alloc (.cells arr e))) (.slice (some ⟨w.heap.size,0,none⟩) 2 2) [x,y]:=by
 have:=OL.lit (w:=w) (base:=w.heap.size) (e:=e) QC.elem hX (Nat.le_refl _) [u,v] [x,y] arr (by rw[harr];simp) rfl (fun i hi hi'=>by
  match i,hi with
  |0,_=>exact hu
  |1,_=>exact hv) (by simp)
 exact⟨_,_,rfl,Nat.le_refl _,this.sl QC.elem⟩
theorem c1t {X:Nat->Bool} {w:World} {e:TypeId} (hX:HX X w) {u v:Value} {x y:List Rat} (hu:RC (mk X w) u x) (hv:RC (mk X w) v y) {arr:Array Value} (harr:arr=(a0g u++a0g v).toArray):MC (mk X (w.alloc (.cells arr e))) (.slice (some ⟨w.heap.size,0,none⟩) 2 2) [x,y]:=by
 have:=OL.lit (w:=w) (base:=w.heap.size) (e:=e) RC.elem hX (Nat.le_refl _) [u,v] [x,y] arr (by rw[harr];simp) rfl (fun i hi hi'=>by
  match i,hi with
  |0,_=>exact hu
  |1,_=>exact hv) (by simp)
 exact⟨_,_,rfl,Nat.le_refl _,this.sl RC.elem⟩
theorem c1u {X:Nat->Bool} {w:World} {e:TypeId} (hX:HX X w) (x y:Nat) {arr:Array Value} (harr:arr=#[.int .i64 (x:Int), .int .i64 (y:Int)]):SlV (a0a .i64) 1 (mk X (w.alloc (.cells arr e))) (.slice (some ⟨w.heap.size,0,none⟩) 2 2) [x,y]:=by
 have:=OL.lit (w:=w) (base:=w.heap.size) (e:=e) (a0a.elem .i64) hX (Nat.le_refl _) [.int .i64 (x:Int), .int .i64 (y:Int)] [x,y] arr (by rw[harr];simp[a0g,Value.cells]) rfl (fun i hi hi'=>by
  match i,hi with
  |0,_=>rfl
  |1,_=>rfl) (by simp)
 exact⟨_,_,rfl,Nat.le_refl _,this.sl (a0a.elem .i64)⟩
end Go.Rep
namespace Go.Proofs.YtoibhmjjhgaimaaGreat
open Go.RowKit Go.Rep Go.Lim Go.Lin
end Go.Proofs.YtoibhmjjhgaimaaGreat
namespace Go.Lin
open Go.Lim Go.Rep
def a7P (k:Nat):Mat:=(List.range k).map fun i=>[((i:Nat):Rat),0,0]
theorem a8I (k i:Nat) (h:i<(a7P k).length):(a7P k)[i]= [((i:Nat):Rat),0,0]:=by simp[a7P]
theorem b9s {k:Nat} (hk:k<=64):BM 2 (a7P k):=fun r hr q hq'=>by
 unfold a7P at hr;obtain⟨i,hi,rfl⟩:=List.mem_map.1 hr;have hi:=List.mem_range.1 hi;simp only[List.mem_cons,List.not_mem_nil,or_false]at hq';rcases hq' with rfl|rfl|rfl
 ·have:hq (((i:Int):Rat))<=1:=b6Q (by omega)
  exact Nat.le_trans this (by decide)
 ·rw[a1p];decide
 ·rw[a1p];decide
theorem b1O {k:Nat} (h1:1<=k) (hk:k<=64):a2k (a7P k)=true/\a0l (a7P k)=3:=by
 have hl:(a7P k).length=k:=by simp[a7P]
 have hc:a0l (a7P k)=3:=by
  have e:(a7P k).getD 0 []=(a7P k)[0]'(by omega):=by simp[List.getD_eq_getElem?_getD,show 0<(a7P k).length by omega]
  unfold a0l;rw[e,a8I];rfl
 exact⟨a0L.2 ⟨by omega,by omega,by omega,by omega,fun i hi=>by rw[hc,a8I];rfl⟩,hc⟩
theorem b4S {k:Nat} (h1:25<=k) (hk:k<=64):a7k (a7P k)=2:=by
 obtain⟨h2,h3⟩:=b1O (k:=k) (by omega) hk;unfold a7k;rw[h2,if_pos rfl,h3,if_pos ⟨by simp[a7P];omega,rfl⟩]
theorem b6R {k:Nat} {x:List Rat} (h1:25<=k) (hk:k<=64) (hx:x.length=3):sdE (a7P k) x=2:=by
 obtain⟨h2,h3⟩:=b1O (k:=k) (by omega) hk;unfold sdE b7r;rw[h2,h3,hx];rw[if_pos (by rfl),if_pos ⟨by simp[a7P];omega,rfl⟩]
end Go.Lin
namespace Go.Proofs.YtoibhmjjhgaimaaGreat
open Go.RowKit Go.Rep Go.Lim Go.Lin
theorem b6S (X:Nat->Bool) (w:World) (s:Bool) (a:Option Addr) (n c:Nat) (d:Option Addr) (k e:Nat) (s2:Bool) (a2:Option Addr) (n2 c2:Nat) (d2:Option Addr) (k2 e2:Nat) (s3:Bool) (a3:Option Addr) (n3 c3:Nat) (d3:Option Addr) (k3 e3:Nat) (x y z:Rat) (t:TypeId) (hX:HX X w) (h:QC (mk X w) (.agg #[.bool s, .slice a n c, .slice d k e]) x) (h2:QC (mk X w) (.agg #[.bool s2, .slice a2 n2 c2, .slice d2 k2 e2]) y) (h3:QC (mk X w) (.agg #[.bool s3, .slice a3 n3 c3, .slice d3 k3 e3]) z):
  OL QC 3 X w.heap.size t (w.alloc (.cells #[.bool s, .slice a n c, .slice d k e, .bool s2, .slice a2 n2 c2, .slice d2 k2 e2, .bool s3, .slice a3 n3 c3, .slice d3 k3 e3] t)) (some ⟨w.heap.size,0,none⟩) 3 [x,y,z]:=
 OL.lit QC.elem hX (Nat.le_refl _) [.agg #[.bool s, .slice a n c, .slice d k e], .agg #[.bool s2, .slice a2 n2 c2, .slice d2 k2 e2], .agg #[.bool s3, .slice a3 n3 c3, .slice d3 k3 e3]] [x,y,z] _ (by simp[a0g,Value.cells]) rfl (fun i hi _=>by
  match i,hi with
  |0,_=>exact h
  |1,_=>exact h2
  |2,_=>exact h3) (by simp)
set_option maxRecDepth 100000 in
set_option maxHeartbeats 1600000 in
theorem b4T (d1:Int) (w:World) (h1:0<=d1) (h2:d1<256):
  Calls Tryz.prog 12 #[.int .u8 d1] w (a7A w true):=by
 obtain⟨k,hk⟩:∃k:Nat,(k:Int)=24+d1%41:=⟨(24+d1%41).toNat,by omega⟩;have hk24:24<=k/\k<=64:=by omega
 have hlen:Hid ((a7P k).length=k):=hid (by simp[a7P]);have hget:=hid (a8I k);have hbm:=hid (b9s hk24.2);have hms:=hid (fun h=>b4S (k:=k) h hk24.2);have hsd:=hid (fun x h hx=>b6R (x:=x) (k:=k) h hk24.2 hx);obtain⟨M,hM⟩:∃M,a7P k=M:=⟨_,rfl⟩;rw[hM]at hlen hget hbm hms hsd;clear hM;go_enter Tryz.func12,Tryz.ntmps12
 go_wp2_with fail
 rw[<-hk];have hk2:=hk24;clear hk h1 h2;go_loopw [4,5] (fun o cx wr=>∃(i:Nat) (po:Option Addr) (pc:Nat),cx= .int .i64 i/\o= .slice po i pc/\i<=k/\OL RC 1 noY w.heap.size 45 wr po pc (M.take i)/\Ext w wr) (fun _ cx _=>k - (intOf cx).toNat)
 case atStart=>exact⟨0,none,0,rfl,rfl,Nat.zero_le _,OL.nil _ _ _ _ _ _,ExtX.refl _⟩
 case round=>
  obtain⟨i,po,pc,rfl,rfl,hi,hO,hE⟩:=hrel;by_cases hlt:i<k
  ·have hil:i<M.length:=by rw[hlen.out];exact hlt
   have htk:=hid (a0S M i hil);have hln:=hid (a1e (l:=M) (i:=i) (Nat.le_of_lt hil));have hg:=hid (hget.out i hil);rw[hg.out]at htk;have hXu:HX (un noY po) wr:=hO.unX (b4X wr);have hiv:Hid ((((i:Int):Rat))=((i:Nat):Rat)):=hid rfl;have h0v:Hid ((((0:Int):Rat))=0):=hid rfl;go_wp2_with fail
   refine(a4b (un noY po) wr (i:Int) hXu (by omega) (by omega)).mono ?_;rintro e w5 ⟨hE5,u5,rfl,hu5⟩;rw[hiv.out]at hu5;obtain⟨s5,a5,n5,c5,d5,m5,e5,rfl⟩:=hu5.shape;go_wp2_with fail
   refine(a4b (un noY po) w5 0 (hXu.ext hE5) (by decide) (by decide)).mono ?_;rintro e w6 ⟨hE6,u6,rfl,hu6⟩;rw[h0v.out]at hu6;obtain⟨s6,a6,n6,c6,d6,m6,e6,rfl⟩:=hu6.shape;go_wp2_with fail
   refine(a4b (un noY po) w6 0 ((hXu.ext hE5).ext hE6) (by decide) (by decide)).mono ?_;rintro e w7 ⟨hE7,u7,rfl,hu7⟩;rw[h0v.out]at hu7;obtain⟨s7,a7,n7,c7,d7,m7,e7,rfl⟩:=hu7.shape;have hL1:=(b6S (un noY po) w7 s5 a5 n5 c5 d5 m5 e5 s6 a6 n6 c6 d6 m6 e6 s7 a7 n7 c7 d7 m7 e7 ((i:Nat):Rat) 0 0 32 (((hXu.ext hE5).ext hE6).ext hE7) (mkx QC.mono hu5 (hE6.trans hE7)) (mkx QC.mono hu6 hE7) hu7).sl QC.elem;have hEA:Ext w7 (w7.alloc (.cells #[.bool s5, .slice a5 n5 c5, .slice d5 m5 e5, .bool s6, .slice a6 n6 c6, .slice d6 m6 e6, .bool s7, .slice a7 n7 c7, .slice d7 m7 e7] 32)):=(ExtX.refl _).alloc _;obtain⟨wA,hwA⟩:∃wA,w7.alloc (.cells #[.bool s5, .slice a5 n5 c5, .slice d5 m5 e5, .bool s6, .slice a6 n6 c6, .slice d6 m6 e6, .bool s7, .slice a7 n7 c7, .slice d7 m7 e7] 32)=wA:=⟨_,rfl⟩;obtain⟨gA,hgA⟩:∃gA:Option Addr,some ⟨w7.heap.size,0,none⟩=gA:=⟨_,rfl⟩;rw[hwA,hgA]at hL1;rw[hwA]at hEA;have hE57:=hE5.trans (hE6.trans hE7);have hOA:=hO.ext0 RC.elem (hE57.trans hEA);have hRC:RC (mk (un noY po) wA) (.slice gA 3 3) [((i:Nat):Rat),0,0]:=⟨gA,3,rfl,Nat.le_refl _,hL1⟩;have hbA:=(hE.trans (hE57.trans hEA)).size;have hEwA:=hE.trans (hE57.trans hEA);clear hO hu5 hu6 hu7 hL1;go_wp2_with (at_builtin;refine a0r (l:=M.take i) a0o rfl RC.elem hbA (b4X wA) i hln.out rfl rfl hOA (.slice gA 3 3) [((i:Nat):Rat),0,0] rfl hRC (by omega) (by omega) ?_;intro oo2 co2 w8 hO8 hE8 hor)
   have hE9:=hEwA.own hOA (Nat.le_refl _) hE8;rw[htk.out]at hO8;go_roundw
   case rel=>exact⟨i+1,oo2,co2,by go_num,by go_num,by omega,hO8,hE9⟩
   case measure=>simp[intOf];omega
  ·have hik:i=k:=by omega
   rw[hik]at hO |-;rw[List.take_of_length_le (by rw[hlen.out];exact Nat.le_refl _)]at hO;clear hik hlt hi;by_cases h24:k=24
   ·subst h24
    go_wp2_with fail
    refine(a0X wr).mono ?_;rintro e w4 ⟨hE4,rfl⟩;go_wp2_with fail
    go_ret
    exact⟨hE.trans hE4,rfl⟩
   have hP:=(hO.toRV (hbm.out.le (by decide))).sl RV.elem;have hPc:=hO.lenCap;have hPV:MV (mk noY wr) (.slice po k pc) M:=⟨po,pc,by rw[hlen.out],by rw[hlen.out]at hPc |-;exact hPc,hP⟩;have h0:0<M.length:=by rw[hlen.out];omega
   obtain⟨a1,c1,hX1,hc1,hcl1,hq1⟩:=hP.row 0 h0;have hg0:=hget.out 0 h0;have hl3:M[0].length=3:=by rw[hg0];rfl
   have hRV:RV (mk noY wr) (.slice a1 3 c1) M[0]:=⟨a1,c1,by rw[hl3],by rw[hl3]at hcl1 |-;exact hcl1,hq1⟩;have k00:=hc1.out noY wr (ExtX.refl _) rfl;rw[hl3]at k00;have hh:Hd po k:=by have:=hP.hd;rw[hlen.out]at this;exact this
   have hd1:=a2V noY wr (.slice po k pc) (.slice a1 3 c1) M M[0] 2 (b4X wr) hPV hRV (by rw[hlen.out];omega) hbm.out (hbm.out _ (List.getElem_mem _)) (by decide) (by decide);unfold a3v at hd1;rw[hsd.out M[0] (by omega) hl3]at hd1;have hme:=hid (fun w' (h:Ext wr w')=>b1G noY w' (.slice po k pc) M 2 (b4X w') (mkx MV.mono hPV h) (by rw[hlen.out];omega) hbm.out (by decide) (by decide));unfold a3B at hme;rw[hms.out (by omega)]at hme;obtain⟨V1,hV1⟩:∃V,a4i M M[0] (sdL M M[0])=V:=⟨_,rfl⟩;obtain⟨V2,hV2⟩:∃V,(sdL M M[0]).length=V:=⟨_,rfl⟩;rw[hV1,hV2]at hd1;have hkk:((k:Int)==24)=false:=a1S (by omega);clear hc1 hP hO hg0 hl3 hRV hV1 hV2 hPV;go_wp2_with (with_reducible refine a0n a0o (by omega) (by assumption) ?_)
   refine hd1.mono ?_;rintro e w2 ⟨hE2,rfl⟩;have hme2:=hme.out w2 hE2;clear hd1 k00 hme;go_wp2_with fail
   refine hme2.mono ?_;rintro e w3 ⟨hE3,ao,cap,rfl,_,_⟩;clear hme2;go_wp2_with fail
   refine(a0X w3).mono ?_;rintro e w4 ⟨hE4,rfl⟩;go_wp2_with fail
   go_ret
   exact⟨hE.trans (hE2.trans (hE3.trans hE4)),rfl⟩
end Go.Proofs.YtoibhmjjhgaimaaGreat
