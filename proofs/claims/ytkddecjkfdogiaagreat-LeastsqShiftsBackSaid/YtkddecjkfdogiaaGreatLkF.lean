/- The reference's integers: Neg, Sign, FromInt, Same, Gcd. Conditions: at most 2^39 digits. The reference's integers: Div, where it leaves no remainder. Conditions: at most 2^38 digits. integer.FromInt, Compare. Conditions: at most 2^39 digits. rational: readings; one, Valid, value, den. Conditions: at most 2^36 digits. Rows of rational numbers, and matrices, in slices: their elements, loads, types. Conditions: none. A step of a drawn region: append of one element to an owned list. Conditions: none. Sums, row operations, and the reduced form of a matrix, which is unique. Conditions: none. Row echelon forms and reduced forms, column by column. Conditions: none. Elimination over lists of rows: what the two programs compute is the reduced form. Conditions: none. -/
import Derived.Test.YtkddecjkfdogiaaGreatLkE
import Derived.Deep.RegionHeld3
namespace Go.Proofs.YtkddecjkfdogiaaGreat
open Go.RowKit Go.Rep Go.Lim
def a9V (w:World) (b:Bool) (e:Ending) (w':World):Prop:=Ext w w'/\e= .returned (.bool b)
theorem b4Q (X:Nat->Bool) (w:World) (u:Value) (x:Int) (hX:HX X w) (hu:ZV (mk X w) u x):Calls Tryz.prog 188 #[u] w (a2w X w ZC (-x)):=by
 obtain⟨s1,a1,c1,l1,rfl,hu'⟩:=id hu;obtain⟨W,hW,hE,b0,b1,hz⟩:=a1Y w #[.bool s1, .slice a1 l1.length c1] #[.bool false, .slice none 0 0] 30 30;have hXW:HX (a0i X w.heap.size 2) W:=hX.boxes hz;have hu1:=ZV.mono _ _ _ _ (a0s (nb:=2) hE) hu;obtain⟨b,hb⟩:∃b,w.heap.size=b:=⟨_,rfl⟩;have hbw:w.heap.size<=b:=by omega
 rw[hb]at b0 b1 hz hXW hu1;have k00:=b0.cell 0 rfl;have k01:=b0.cell 1 rfl;clear hu hu';go_enter Tryz.func188,Tryz.ntmps188
 go_wp2_with fail
 refine(a5D (a0i X b 2) W _ x hXW hu1).mono ?_;rintro e w6 ⟨hE6,u6,rfl,s6,a6,c6,l6,rfl,h61,h62,h63⟩;have hX6:=hXW.ext hE6;have bb0:=b0.ext0 hE6;have bb1:=b1.ext0 hE6;have hsz:=hid (a5d h62);clear k00 k01;go_wp2_with ((with_reducible show wpList _ _ _ (⟨_, .store _ _ _,_,_,_,_⟩::_) _ _);refine a0c a0C rfl rfl bb0 rfl rfl (a2F _ _ _ _) ?_;intro w7 r1 r2;have k00:=r1.cell 0 rfl;have k01:=r1.cell 1 rfl)
 have hX7:=hX6.ext r2;have bb3:=bb1.ext r2 (a0e (by omega));have hn:NC (mk (a0i X b 2) w7) (.slice a6 l6.length c6) x.natAbs:=⟨a6,c6,l6,rfl,h61,h62.2,h63.mono (a0b.mono _) (a0h r2 (by omega) (by omega))⟩;have hfin:Hid (sg (!s6) x.natAbs= -x):=hid (by
  have e1:=hsz.out;rw[<-e1,a8d];unfold sg;cases s6<;>simp)
 refine(a2T (a0i X b 2) w7 (!s6) _ _ hX7 hn).mono ?_;rintro e w8 ⟨hE8,u8,rfl,s8,a8,c8,l8,rfl,h81,h82,h83⟩;rw[hfin.out]at h82;have bb4:=bb3.ext0 hE8;clear k00 k01;go_wp2_with ((with_reducible show wpList _ _ _ (⟨_, .store _ _ _,_,_,_,_⟩::_) _ _);refine a0c a0C rfl rfl bb4 rfl rfl (a2F _ _ _ _) ?_;intro w9 q1 q2)
 have h7:=(h83.mono (a0b.mono _) (a0h q2 (by omega) (by omega))).mono (a0b.mono _) a0m;exact bodyPost_ret (a0f rfl rfl a0C q1 rfl) rfl ⟨ExtX.box ((ExtX.box (hE.trans hE6) r2 (by omega)).trans hE8) q2 (by omega),_,rfl,s8,a8,c8,l8,rfl,h81,h82,h7⟩
theorem b4R (X:Nat->Bool) (w:World) (u:Value) (x:Int) (hX:HX X w) (hu:ZV (mk X w) u x):Calls Tryz.prog 118 #[u] w (a5A w x.sign):=by
 obtain⟨s1,a1,c1,l1,rfl,hu'⟩:=id hu;obtain⟨W,hW,hE,b0,hz⟩:=a1L w #[.bool s1, .slice a1 l1.length c1] 30;have hXW:HX (a0i X w.heap.size 1) W:=hX.boxes hz;have hu1:=ZV.mono _ _ _ _ (a0s (nb:=1) hE) hu;obtain⟨b,hb⟩:∃b,w.heap.size=b:=⟨_,rfl⟩;have hbw:w.heap.size<=b:=by omega
 rw[hb]at b0 hz hXW hu1;have k00:=b0.cell 0 rfl;have k01:=b0.cell 1 rfl;clear hu hu';go_enter Tryz.func118,Tryz.ntmps118
 go_wp2_with fail
 refine(a5D (a0i X b 1) W _ x hXW hu1).mono ?_;rintro e w5 ⟨hE5,u5,rfl,s6,a6,c6,l6,rfl,h61,h62,h63⟩;have bb0:=b0.ext0 hE5;have hl0:=hid h62.len0;have hs6:=hid h62.1;clear k00 k01 h62;by_cases hneg:x<0
 ·have hf:Hid (x.sign= -1):=hid (Int.sign_eq_neg_one_of_neg hneg)
  obtain rfl:s6=true:=by rw[hs6.out];exact decide_eq_true hneg
  clear hl0 hneg hs6;go_wp2_with ((with_reducible show wpList _ _ _ (⟨_, .store _ _ _,_,_,_,_⟩::_) _ _);refine a0c a0C rfl rfl bb0 rfl rfl (a2F _ _ _ _) ?_;intro w7 r1 r2;have k00:=r1.cell 0 rfl;have k01:=r1.cell 1 rfl)
  have hEf:=ExtX.box (hE.trans hE5) r2 (by omega);go_ret
  exact⟨hEf,a0I hf.out.symm⟩
 ·obtain rfl:s6=false:=by rw[hs6.out];exact decide_eq_false hneg
  by_cases h0:l6.length=0
  ·have hx0:x=0:=hl0.out.1 h0
   subst hx0;obtain rfl:l6= []:=List.eq_nil_of_length_eq_zero h0;clear hl0 hs6 h0 hneg;simp only[List.length_nil]at h61 |-;go_wp2_with ((with_reducible show wpList _ _ _ (⟨_, .store _ _ _,_,_,_,_⟩::_) _ _);refine a0c a0C rfl rfl bb0 rfl rfl (a2F _ _ _ _) ?_;intro w7 r1 r2;have k00:=r1.cell 0 rfl;have k01:=r1.cell 1 rfl)
   have hEf:=ExtX.box (hE.trans hE5) r2 (by omega);go_ret
   exact⟨hEf,rfl⟩
  ·have hx0:¬x=0:=fun h=>h0 (hl0.out.2 h)
   have hp:0<l6.length:=by omega
   have hf:Hid (x.sign=1):=hid (Int.sign_eq_one_of_pos (by omega));clear hl0 hx0 hneg hs6 h0;go_wp2_with ((with_reducible show wpList _ _ _ (⟨_, .store _ _ _,_,_,_,_⟩::_) _ _);refine a0c a0C rfl rfl bb0 rfl rfl (a2F _ _ _ _) ?_;intro w7 r1 r2;have k00:=r1.cell 0 rfl;have k01:=r1.cell 1 rfl)
   have hEf:=ExtX.box (hE.trans hE5) r2 (by omega);go_ret
   exact⟨hEf,a0I hf.out.symm⟩
theorem a9W (X:Nat->Bool) (w:World) (v:Int) (hX:HX X w) (h1: -9223372036854775808<=v) (h2:v<=9223372036854775807):Calls Tryz.prog 121 #[.int .i64 v] w (a2w X w ZC v):=by
 obtain⟨W,hW,hE,b0,hz⟩:=a1L w #[.bool false, .slice none 0 0] 30;have hXW:HX (a0i X w.heap.size 1) W:=hX.boxes hz;obtain⟨b,hb⟩:∃b,w.heap.size=b:=⟨_,rfl⟩;have hbw:w.heap.size<=b:=by omega
 rw[hb]at b0 hz hXW;by_cases hv:v<0
 ·obtain⟨n,hn⟩:∃n:Nat,-(v+1)=n:=Int.eq_ofNat_of_zero_le (by omega)
  have hnn:Hid (sg true (n+1)=v):=hid (by unfold sg;simp;omega);have hvv:Hid (-(v+1)=(n:Int)):=hid hn;have hnl:Hid (n<18446744073709551616):=hid (by omega);have hnI:(n:Int)<=9223372036854775807:=by omega
  clear hn;go_enter Tryz.func121,Tryz.ntmps121
  go_wp2_with fail
  rw[hvv.out];refine(b2v (X:=a0i X b 1) hXW hnl.out).mono ?_;rintro e w5 ⟨hE5,u5,rfl,hu5⟩;have hX5:=hXW.ext hE5;go_wp2_with fail
  have hone:=NC.lit hX5 1 118 (by omega) (by omega);have hE6:Ext w5 (w5.alloc (.cells #[.int .u32 ((1:Nat):Int)] 118)):=(ExtX.refl w5).alloc _;have hl1:lg n<=1099511627776:=by
   have:n<B^2:=by rw[a0Z];omega
   have:=a2Q.2 this;omega
  refine(b4L (hX5.ext hE6) (mkx NV.mono (hu5.nv hl1) hE6) (hone.nv (by rw[a3k];decide))).mono ?_;rintro e w7 ⟨hE7,u7,rfl,hu7⟩;have hE57:=hE5.trans (hE6.trans hE7);have hX7:=hXW.ext hE57;clear hE5 hE6 hE7 hX5 hone hu5 hl1;go_wp2_with fail
  refine(a2T (a0i X b 1) w7 true u7 _ hX7 hu7).mono ?_;rintro e w8 ⟨hE8,u6,rfl,s6,a6,c6,l6,rfl,h61,h62,h63⟩;rw[hnn.out]at h62;have bb0:=(b0.ext0 hE57).ext0 hE8;go_wp2_with ((with_reducible show wpList _ _ _ (⟨_, .store _ _ _,_,_,_,_⟩::_) _ _);refine a0c a0C rfl rfl bb0 rfl rfl (a2F _ _ _ _) ?_;intro w9 r1 r2)
  have h7:=(h63.mono (a0b.mono _) (a0h r2 (by omega) (by omega))).mono (a0b.mono _) a0m;exact bodyPost_ret (a0f rfl rfl a0C r1 rfl) rfl ⟨ExtX.box (hE.trans (hE57.trans hE8)) r2 (by omega),_,rfl,s6,a6,c6,l6,rfl,h61,h62,h7⟩
 ·obtain⟨n,rfl⟩:=Int.eq_ofNat_of_zero_le (show 0<=v by omega)
  have hn:Hid (sg false n=(n:Int)):=hid rfl;have hlt2:Hid (n<18446744073709551616):=hid (by omega);go_enter Tryz.func121,Tryz.ntmps121
  go_wp2_with fail
  refine(b2v (X:=a0i X b 1) hXW hlt2.out).mono ?_;rintro e w5 ⟨hE5,u5,rfl,hu5⟩;go_wp2_with fail
  refine(a2T (a0i X b 1) w5 false u5 n (hXW.ext hE5) hu5).mono ?_;rintro e w6 ⟨hE6,u6,rfl,s6,a6,c6,l6,rfl,h61,h62,h63⟩;have bb0:=(b0.ext0 hE5).ext0 hE6;go_wp2_with ((with_reducible show wpList _ _ _ (⟨_, .store _ _ _,_,_,_,_⟩::_) _ _);refine a0c a0C rfl rfl bb0 rfl rfl (a2F _ _ _ _) ?_;intro w7 r1 r2)
  have h7:=(h63.mono (a0b.mono _) (a0h r2 (by omega) (by omega))).mono (a0b.mono _) a0m;exact bodyPost_ret (a0f rfl rfl a0C r1 rfl) rfl ⟨ExtX.box (hE.trans (hE5.trans hE6)) r2 (by omega),_,rfl,s6,a6,c6,l6,rfl,h61,h62,h7⟩
theorem b2y (X:Nat->Bool) (w:World) (u v:Value) (x y:Int) (hu:ZC (mk X w) u x) (hv:ZC (mk X w) v y) (hl:lg x.natAbs<=1099511627776):Calls Tryz.prog 106 #[u,v] w (a9V w (decide (x=y))):=by
 obtain⟨s1,a1,c1,l1,rfl,h11,h12,h13⟩:=hu;obtain⟨s2,a2,c2,l2,rfl,h21,h22,h23⟩:=hv;obtain⟨W,hW,hE,b0,b1,hz⟩:=a1Y w #[.bool s1, .slice a1 l1.length c1] #[.bool s2, .slice a2 l2.length c2] 30 30;have hn1:NC (mk X W) (.slice a1 l1.length c1) x.natAbs:=⟨a1,c1,l1,rfl,h11,h12.2,h13.mono (a0b.mono _) (a0o hE)⟩;have hn2:NC (mk X W) (.slice a2 l2.length c2) y.natAbs:=⟨a2,c2,l2,rfl,h21,h22.2,h23.mono (a0b.mono _) (a0o hE)⟩;obtain⟨b,hb⟩:∃b,w.heap.size=b:=⟨_,rfl⟩;rw[hb]at b0 b1 hz;have k00:=b0.cell 0 rfl;have k01:=b0.cell 1 rfl;have k10:=b1.cell 0 rfl;have k11:=b1.cell 1 rfl;have hs1:=hid (a5d h12);have hs2:=hid (a5d h22);by_cases hss:s1=s2
 ·subst hss
  have hf:Hid (decide (x=y)=decide (x.natAbs=y.natAbs)):=hid (by
   rw[Bool.eq_iff_iff];simp only[decide_eq_true_eq];constructor
   ·intro h;rw[h]
   ·intro h;rw[<-hs1.out,<-hs2.out,h])
  have hl':=hid hl;clear h12 h22 hl;go_enter Tryz.func106,Tryz.ntmps106
  go_wp2_with fail
  refine(b2x X W _ _ _ _ hn1 hn2 hl'.out).mono ?_;rintro e w5 ⟨rfl,m,rfl⟩;go_wp2_with fail
  go_ret
  exact⟨hE.trans ((ExtX.refl W).drewN m),a0l hf.out.symm⟩
 ·have hf:Hid (decide (x=y)=false):=hid (by
   rw[decide_eq_false_iff_not];intro h;subst h;exact hss (h12.1.trans h22.1.symm))
  have hne:(s1==s2)=false:=by simpa using hss
  clear h12 h22 hl hss;go_enter Tryz.func106,Tryz.ntmps106
  go_wp2_with fail
  go_ret
  exact⟨hE,a0l hf.out.symm⟩
theorem a6D (s:Bool) (a:Option Addr) (n c:Nat) (W:World):(Instr.field 30 (.agg #[.bool s, .slice a n c]) 1).run Tryz.prog W= .ok (.slice a n c) W:=by kernel_rfl
set_option maxRecDepth 100000 in
set_option maxHeartbeats 800000 in
theorem b4S (X:Nat->Bool) (w:World) (u v:Value) (x y:Int) (hX:HX X w) (hu:ZV (mk X w) u x) (hv:ZV (mk X w) v y) (hbx:lg x.natAbs<=274877906944) (hby:lg y.natAbs<=274877906944):Calls Tryz.prog 189 #[u,v] w (a2w X w NC (Nat.gcd x.natAbs y.natAbs)):=by
 have hbx':=hid hbx;have hby':=hid hby;clear hbx hby;have hlx:=hid hu.lg;have hly:=hid hv.lg;obtain⟨s1,a1,c1,l1,rfl,hu'⟩:=id hu;obtain⟨s2,a2,c2,l2,rfl,hv'⟩:=id hv;obtain⟨W,hW,hE,b0,b1,hz⟩:=a1Y w #[.bool s1, .slice a1 l1.length c1] #[.bool s2, .slice a2 l2.length c2] 30 30;have hXW:HX (a0i X w.heap.size 2) W:=hX.boxes hz;have hu1:=ZV.mono _ _ _ _ (a0s (nb:=2) hE) hu;have hv1:=ZV.mono _ _ _ _ (a0s (nb:=2) hE) hv;obtain⟨b,hb⟩:∃b,w.heap.size=b:=⟨_,rfl⟩;have hbw:w.heap.size<=b:=by omega
 rw[hb]at b0 b1 hz hXW hu1 hv1;have hEd:Ext W W.drew:=(ExtX.refl W).drew;have hXd:HX (a0i X b 2) W.drew:=hXW;have hud:ZV (mk (a0i X b 2) W.drew) (.agg #[.bool s1, .slice a1 l1.length c1]) x:=hu1;have hvd:ZV (mk (a0i X b 2) W.drew) (.agg #[.bool s2, .slice a2 l2.length c2]) y:=hv1;have k00:=b0.cell 0 rfl;have k01:=b0.cell 1 rfl;have k10:=b1.cell 0 rfl;have k11:=b1.cell 1 rfl;clear hu hv hu' hv';have hB:=hid (And.intro b0 b1);have hfl:=a6D;go_enter Tryz.func189,Tryz.ntmps189
 go_wp2_with fail
 go_region_with (first|(go_at_call 183;(with_reducible refine(a5D (a0i X b 2) W.drew _ x hXd hud).mono ?_);rintro e w5 ⟨hE5,u5,rfl,s5,a5,c5,l5,rfl,h51,h52,h53⟩;have bb0:=hB.out.1.ext0 (hEd.trans hE5);have bb1:=hB.out.2.ext0 (hEd.trans hE5);have e00:=bb0.cell 0 rfl;have e01:=bb0.cell 1 rfl;have e10:=bb1.cell 0 rfl;have e11:=bb1.cell 1 rfl)|(go_at_call 183;(with_reducible refine(a5D (a0i X b 2) w5 _ y (HX.ext hXd hE5) (mkx ZV.mono hvd hE5)).mono ?_);rintro e w6 ⟨hE6,u6,rfl,s6,a6,c6,l6,rfl,h61,h62,h63⟩;have hX6:=HX.ext (HX.ext hXd hE5) hE6;have hm5:NV (mk (a0i X b 2) w6) (.slice a5 l5.length c5) x.natAbs:=NC.nv ⟨a5,c5,l5,rfl,h51,h52.2,h53.mono (a0b.mono _) (a0o hE6)⟩ (by have:=hbx'.out;omega);have hm6:NV (mk (a0i X b 2) w6) (.slice a6 l6.length c6) y.natAbs:=NC.nv ⟨a6,c6,l6,rfl,h61,h62.2,h63⟩ (by have:=hby'.out;omega))|(go_at_call 237;(with_reducible refine(b5P (a0i X b 2) w6 _ _ _ _ hX6 hm5 hm6 hbx'.out hby'.out).mono ?_);rintro e w7 ⟨hE7,u7,rfl,hu7⟩))
 all_goals
  have hEf:=hE.trans (hEd.trans (hE5.trans (hE6.trans hE7)));clear e00 e01 e10 e11 k00 k01 k10 k11 hfl;go_wp2_with fail
  go_ret
  exact⟨hEf,_,rfl,NC.mono _ _ _ _ a0m hu7⟩
def b5Q (X:Nat->Bool) (w:World) (q:Int) (e:Ending) (w':World):Prop:=Ext w w'/\∃u sv av nv cv,e= .returned (.tuple #[u, .agg #[.bool sv, .slice av nv cv], .bool true])/\ZC (mk X w') u q
theorem a4G {P:Program} {w:World} {fn:Func} {tmps:Array Value} {c c2 d:Tmp} {t:TypeId} {n b b':Nat} {cs cs':Array Value} {T T':TypeId} (h:fn.results=#[.cell c t, .cell c2 t, .tmp d]) (hp:tmps.getD c undef= .pointer (some ⟨b,0,none⟩)) (hp2:tmps.getD c2 undef= .pointer (some ⟨b',0,none⟩)) (hT:a1F P t n) (hb:Bx w b cs T) (hcs:cs.size=n) (hb':Bx w b' cs' T') (hcs':cs'.size=n):
  (results fn tmps).run P w= .ok (.tuple #[.agg cs, .agg cs',tmps.getD d undef]) w:=by
 have hl:=a2s (P:=P) hT hb hcs;have hl':=a2s (P:=P) hT hb' hcs';rw[Array.getD_eq_getD_getElem?]at hp hp2;simp[results,h,hp,hp2,asAddr,hl,hl']
set_option maxRecDepth 100000 in
set_option maxHeartbeats 800000 in
theorem b1p (X:Nat->Bool) (w:World) (u v:Value) (x y:Int) (hX:HX X w) (hu:ZV (mk X w) u x) (hv:ZV (mk X w) v y) (hbx:lg x.natAbs<=274877906944) (hby:lg y.natAbs<=274877906944) (h0:0<y) (hd:y∣x):Calls Tryz.prog 190 #[u,v] w (b5Q X w (x/y)):=by
 have hbx':=hid hbx;have hby':=hid hby;have hq:Hid (∃k:Int,x=y*k/\x/y=k):=hid (by
  obtain⟨k,rfl⟩:=hd;exact⟨k,rfl,Int.mul_ediv_cancel_left _ (by omega)⟩)
 have h0':=hid h0;clear hbx hby hd h0;have hlx:=hid hu.lg;have hly:=hid hv.lg;obtain⟨s1,a1,c1,l1,rfl,hu'⟩:=id hu;obtain⟨s2,a2,c2,l2,rfl,hv'⟩:=id hv;obtain⟨W,hW,hE,b0,b1,b2,b3,hz⟩:=b4N w #[.bool s1, .slice a1 l1.length c1] #[.bool s2, .slice a2 l2.length c2] #[.bool false, .slice none 0 0] #[.bool false, .slice none 0 0] 30 30 30 30;have hXW:HX (a0i X w.heap.size 4) W:=hX.boxes hz;have hu1:=ZV.mono _ _ _ _ (a0s (nb:=4) hE) hu;have hv1:=ZV.mono _ _ _ _ (a0s (nb:=4) hE) hv;obtain⟨b,hb⟩:∃b,w.heap.size=b:=⟨_,rfl⟩;have hbw:w.heap.size<=b:=by omega
 rw[hb]at b0 b1 b2 b3 hz hXW hu1 hv1;have hEd:Ext W W.drew:=(ExtX.refl W).drew;have hXd:HX (a0i X b 4) W.drew:=hXW;have hud:ZV (mk (a0i X b 4) W.drew) (.agg #[.bool s1, .slice a1 l1.length c1]) x:=hu1;have hvd:ZV (mk (a0i X b 4) W.drew) (.agg #[.bool s2, .slice a2 l2.length c2]) y:=hv1;have k00:=b0.cell 0 rfl;have k01:=b0.cell 1 rfl;have k10:=b1.cell 0 rfl;have k11:=b1.cell 1 rfl;clear hu hv hu' hv';go_enter Tryz.func190,Tryz.ntmps190
 go_upto_region 1 with(fail)
 go_cut []from 10 to 13 (fun wx=>∃s3 a3 c3 l3 s4 a4 c4 l4,Bx wx b #[.bool s3, .slice a3 l3 c3] 30/\Bx wx (b+1) #[.bool s4, .slice a4 l4 c4] 30/\Bx wx (b+1+1) #[.bool false, .slice none 0 0] 30/\Bx wx (b+1+1+1) #[.bool false, .slice none 0 0] 30/\ZC (mk (a0i X b 4) wx) (.agg #[.bool s3, .slice a3 l3 c3]) x/\ZC (mk (a0i X b 4) wx) (.agg #[.bool s4, .slice a4 l4 c4]) y/\Ext w wx)
 case first=>
  go_region_with (first|(go_at_call 183;(with_reducible refine(a5D (a0i X b 4) W.drew _ x hXd hud).mono ?_);rintro e w5 ⟨hE5,u5,rfl,s5,a5,c5,l5,rfl,h51,h52,h53⟩;have bb0:=b0.ext0 (hEd.trans hE5);have bb1:=b1.ext0 (hEd.trans hE5);have e00:=bb0.cell 0 rfl;have e01:=bb0.cell 1 rfl;have e10:=bb1.cell 0 rfl;have e11:=bb1.cell 1 rfl)|(go_at_call 183;(with_reducible refine(a5D (a0i X b 4) w5 _ y (HX.ext hXd hE5) (mkx ZV.mono hvd hE5)).mono ?_);rintro e w6 ⟨hE6,u6,rfl,s6,a6,c6,l6,rfl,h61,h62,h63⟩;have bb2:=bb0.ext0 hE6;have bb3:=bb1.ext0 hE6;have g00:=bb2.cell 0 rfl;have g01:=bb2.cell 1 rfl;have g10:=bb3.cell 0 rfl;have g11:=bb3.cell 1 rfl;have fr0:=bb2.frozen 0;have fr1:=bb2.frozen 1;have fr2:=bb3.frozen 0;have fr3:=bb3.frozen 1))
  all_goals
   obtain⟨wf,hwf,q0,q1,q2,q3,q4⟩:=a3z (X:=X) (nb:=4) bb2 bb3 (hE.trans ((hEd.trans hE5).trans hE6)) hbw (by omega) (.bool s5) (.slice a5 l5.length c5) (.bool s6) (.slice a6 l6.length c6);rw[hwf];have hfx:ZC (mk (a0i X b 4) wf) (.agg #[.bool s5, .slice a5 l5.length c5]) x:=⟨s5,a5,c5,l5,rfl,h51,h52,(h53.mono (a0b.mono _) (a0o hE6)).mono (a0b.mono _) q4⟩;have hfy:ZC (mk (a0i X b 4) wf) (.agg #[.bool s6, .slice a6 l6.length c6]) y:=⟨s6,a6,c6,l6,rfl,h61,h62,h63.mono (a0b.mono _) q4⟩;have q5:=q2 (b+1+1) _ _ (by omega) (by omega) ((b2.ext0 (hEd.trans hE5)).ext0 hE6);have q6:=q2 (b+1+1+1) _ _ (by omega) (by omega) ((b3.ext0 (hEd.trans hE5)).ext0 hE6);clear e00 e01 e10 e11 g00 g01 g10 g11 fr0 fr1 fr2 fr3 k00 k01 k10 k11 hwf;go_wp2_with fail
   go_meet
   exact⟨_,_,_,_,_,_,_,_,q0,q1,q5,q6,hfx,hfy,q3⟩
 case rest=>
  clear k00 k01 k10 k11 b0 b1 b2 b3 hu1 hv1 hud hvd hXd hEd hW;obtain⟨s3,a3,c3,n3,s4,a4,c4,n4,b0,b1,b2,b3,hx,hy,hE1⟩:=hcut;obtain⟨_,_,_,l3,heq,h31,h32,h33⟩:=hx;simp only[Value.agg.injEq,Array.mk.injEq,List.cons.injEq,Value.bool.injEq,Value.slice.injEq,and_true]at heq;obtain⟨rfl,rfl,rfl,rfl⟩:=heq;obtain⟨_,_,_,l4,heq,h41,h42,h43⟩:=hy;simp only[Value.agg.injEq,Array.mk.injEq,List.cons.injEq,Value.bool.injEq,Value.slice.injEq,and_true]at heq;obtain⟨rfl,rfl,rfl,rfl⟩:=heq;have hlz:=hid (a5d h32);have hlw:=hid (a5d h42);have hsx:=hid h32.1;have hsy:=hid h42.1;have hEd:Ext wc wc.drew:=(ExtX.refl wc).drew;have hnx:NV (mk (a0i X b 4) wc) (.slice a3 l3.length c3) x.natAbs:=NC.nv ⟨a3,c3,l3,rfl,h31,h32.2,h33⟩ (by have:=hlx.out;omega);have hny:NV (mk (a0i X b 4) wc) (.slice a4 l4.length c4) y.natAbs:=NC.nv ⟨a4,c4,l4,rfl,h41,h42.2,h43⟩ (by have:=hly.out;omega);have hzz:w.heap.size+4<=wc.heap.size:=by have:=b3.lt;omega
  have hXc:HX (a0i X b 4) wc:=hX.boxes' hE1 (by omega) hzz;have k00:=b0.cell 0 rfl;have k01:=b0.cell 1 rfl;have k10:=b1.cell 0 rfl;have k11:=b1.cell 1 rfl;have hy0:Hid (0<y.natAbs):=hid (by have:=h0'.out;omega);have hmod:Hid (x.natAbs%y.natAbs=0):=hid (by
   obtain⟨k,hk,_⟩:=hq.out;rw[hk,Int.natAbs_mul];exact Nat.mul_mod_right _ _)
  obtain rfl:s4=false:=by rw[hsy.out];exact decide_eq_false (by have:=h0'.out;omega)
  have hfin:Hid (sg s3 (x.natAbs/y.natAbs)=x/y):=hid (by
   obtain⟨k,hk,hk2⟩:=hq.out;have h0:=h0'.out;have e1:=hlz.out;rw[hk2];have hdv:x.natAbs/y.natAbs=k.natAbs:=by rw[hk,Int.natAbs_mul];exact Nat.mul_div_cancel_left _ hy0.out
   rw[hdv,hsx.out];have hs:(x<0)=(k<0):=by
    rw[hk];exact propext ⟨fun h=>by
     by_cases hk0:k<0
     ·exact hk0
     ·have:=Int.mul_nonneg (show 0<=y by omega) (show 0<=k by omega);omega,fun h=>Int.mul_neg_of_pos_of_neg h0 h⟩
   unfold sg;simp only[hs];by_cases hk0:k<0
   ·simp only[hk0,decide_true,if_true];omega
   ·simp only[hk0,decide_false,Bool.false_eq_true,if_false];omega)
  clear hsx hsy hlz hlw h32 h42 hEd;go_wp2_with fail
  refine(b4M (a0i X b 4) wc _ _ _ _ hXc hnx hny hbx'.out hby'.out hy0.out).mono ?_;rintro e w5 ⟨hE5,qu,ru,rfl,hqu,hru⟩;rw[hmod.out]at hru;obtain⟨a5,c5,l5,rfl,h51,h52,h53⟩:=hru;obtain rfl:l5= []:=List.eq_nil_of_length_eq_zero ((a0V h52).2 rfl);have hX5:=hXc.ext hE5;have bb0:=b0.ext0 hE5;have bb1:=b1.ext0 hE5;have bb2:=b2.ext0 hE5;have bb3:=b3.ext0 hE5;clear k00 k01 k10 k11;have k00:=bb0.cell 0 rfl;have k01:=bb0.cell 1 rfl;have k10:=bb1.cell 0 rfl;have k11:=bb1.cell 1 rfl;simp only[List.length_nil];cases s3
  ·
   go_wp2_with fail
   refine(a2T (a0i X b 4) w5 false qu _ hX5 hqu).mono ?_;rintro e w6 ⟨hE6,u6,rfl,s6,a6,c6,l6,rfl,h61,h62,h63⟩;rw[hfin.out]at h62;go_wp2_with fail
   refine(a2T (a0i X b 4) w6 false _ 0 (hX5.ext hE6) (mkx NC.mono ⟨a5,c5,[],rfl,h51,h52,h53⟩ hE6)).mono ?_;rintro e w7 ⟨hE7,u7,rfl,s7,a7,c7,l7,rfl,h71,h72,h73⟩;have d2:=(bb2.ext0 hE6).ext0 hE7;have d3:=(bb3.ext0 hE6).ext0 hE7;have hs7:=h63.mono (a0b.mono _) (a0o hE7);have hE57:=hE1.trans (hE5.trans (hE6.trans hE7));clear k00 k01 k10 k11 h72 h73 h71;go_wp2_with ((with_reducible show wpList _ _ _ (⟨_, .store _ _ _,_,_,_,_⟩::_) _ _);first|(refine a0c a0C rfl rfl d2 rfl rfl (a2F _ _ _ _) ?_;intro w8 r1 r2;have d3':=d3.ext r2 (a0e (by omega)))|(refine a0c a0C rfl rfl d3' rfl rfl (a2F _ _ _ _) ?_;intro w9 r3 r4))
   have r5:=r1.ext r4 (a0e (by omega));have h8:=((hs7.mono (a0b.mono _) (a0h r2 (by omega) (by omega))).mono (a0b.mono _) (a0h r4 (by omega) (by omega))).mono (a0b.mono _) a0m;exact bodyPost_ret (a4G rfl rfl rfl a0C r5 rfl r3 rfl) rfl ⟨ExtX.box (ExtX.box hE57 r2 (by omega)) r4 (by omega),_,_,_,_,_,rfl,s6,a6,c6,l6,rfl,h61,h62,h8⟩
  ·
   go_wp2_with fail
   refine(a2T (a0i X b 4) w5 true qu _ hX5 hqu).mono ?_;rintro e w6 ⟨hE6,u6,rfl,s6,a6,c6,l6,rfl,h61,h62,h63⟩;rw[hfin.out]at h62;go_wp2_with fail
   refine(a2T (a0i X b 4) w6 false _ 0 (hX5.ext hE6) (mkx NC.mono ⟨a5,c5,[],rfl,h51,h52,h53⟩ hE6)).mono ?_;rintro e w7 ⟨hE7,u7,rfl,s7,a7,c7,l7,rfl,h71,h72,h73⟩;have d2:=(bb2.ext0 hE6).ext0 hE7;have d3:=(bb3.ext0 hE6).ext0 hE7;have hs7:=h63.mono (a0b.mono _) (a0o hE7);have hE57:=hE1.trans (hE5.trans (hE6.trans hE7));clear k00 k01 k10 k11 h72 h73 h71;go_wp2_with ((with_reducible show wpList _ _ _ (⟨_, .store _ _ _,_,_,_,_⟩::_) _ _);first|(refine a0c a0C rfl rfl d2 rfl rfl (a2F _ _ _ _) ?_;intro w8 r1 r2;have d3':=d3.ext r2 (a0e (by omega)))|(refine a0c a0C rfl rfl d3' rfl rfl (a2F _ _ _ _) ?_;intro w9 r3 r4))
   have r5:=r1.ext r4 (a0e (by omega));have h8:=((hs7.mono (a0b.mono _) (a0h r2 (by omega) (by omega))).mono (a0b.mono _) (a0h r4 (by omega) (by omega))).mono (a0b.mono _) a0m;exact bodyPost_ret (a4G rfl rfl rfl a0C r5 rfl r3 rfl) rfl ⟨ExtX.box (ExtX.box hE57 r2 (by omega)) r4 (by omega),_,_,_,_,_,rfl,s6,a6,c6,l6,rfl,h61,h62,h8⟩
end Go.Proofs.YtkddecjkfdogiaaGreat
namespace Go.Lim
end Go.Lim
namespace Go.Proofs.YtkddecjkfdogiaaGreat
open Go.RowKit Go.Rep Go.Lim
theorem b5R (X:Nat->Bool) (w:World) (v:Int) (hX:HX X w) (h1: -9223372036854775808<=v) (h2:v<=9223372036854775807):Calls Tryz.prog 208 #[.int .i64 v] w (a2w X w ZC v):=by
 obtain⟨W,hW,hE,b0,hz⟩:=a1L w #[.bool false, .slice none 0 0] 30;have hXW:HX (a0i X w.heap.size 1) W:=hX.boxes hz;obtain⟨b,hb⟩:∃b,w.heap.size=b:=⟨_,rfl⟩;have hbw:w.heap.size<=b:=by omega
 rw[hb]at b0 hz hXW;have hlt:Hid (v.natAbs<18446744073709551616):=hid (by omega);by_cases hv:v<0
 ·have hn:Hid (sg true v.natAbs=v):=hid (by unfold sg;simp;omega)
  have hvv:Hid (IntKind.u64.wrap (-(IntKind.u64.wrap v))=(v.natAbs:Int)):=hid (by rw[IntKind.wrap_u64,IntKind.wrap_u64];omega);go_enter Tryz.func208,Tryz.ntmps208
  go_wp2_with fail
  rw[hvv.out];refine(b4K (X:=a0i X b 1) hXW hlt.out).mono ?_;rintro e w5 ⟨hE5,u5,rfl,hu5⟩;go_wp2_with fail
  refine(a2t (a0i X b 1) w5 true u5 _ (hXW.ext hE5) hu5).mono ?_;rintro e w6 ⟨hE6,u6,rfl,s6,a6,c6,l6,rfl,h61,h62,h63⟩;rw[hn.out]at h62;have bb0:=(b0.ext0 hE5).ext0 hE6;go_wp2_with ((with_reducible show wpList _ _ _ (⟨_, .store _ _ _,_,_,_,_⟩::_) _ _);refine a0c a0C rfl rfl bb0 rfl rfl (a2F _ _ _ _) ?_;intro w7 r1 r2)
  have h7:=(h63.mono (a0b.mono _) (a0h r2 (by omega) (by omega))).mono (a0b.mono _) a0m;exact bodyPost_ret (a0f rfl rfl a0C r1 rfl) rfl ⟨ExtX.box (hE.trans (hE5.trans hE6)) r2 (by omega),_,rfl,s6,a6,c6,l6,rfl,h61,h62,h7⟩
 ·obtain⟨n,rfl⟩:=Int.eq_ofNat_of_zero_le (show 0<=v by omega)
  have hn:Hid (sg false n=(n:Int)):=hid rfl;have hlt2:Hid (n<18446744073709551616):=hid (by omega);go_enter Tryz.func208,Tryz.ntmps208
  go_wp2_with fail
  refine(b4K (X:=a0i X b 1) hXW hlt2.out).mono ?_;rintro e w5 ⟨hE5,u5,rfl,hu5⟩;go_wp2_with fail
  refine(a2t (a0i X b 1) w5 false u5 n (hXW.ext hE5) hu5).mono ?_;rintro e w6 ⟨hE6,u6,rfl,s6,a6,c6,l6,rfl,h61,h62,h63⟩;have bb0:=(b0.ext0 hE5).ext0 hE6;go_wp2_with ((with_reducible show wpList _ _ _ (⟨_, .store _ _ _,_,_,_,_⟩::_) _ _);refine a0c a0C rfl rfl bb0 rfl rfl (a2F _ _ _ _) ?_;intro w7 r1 r2)
  have h7:=(h63.mono (a0b.mono _) (a0h r2 (by omega) (by omega))).mono (a0b.mono _) a0m;exact bodyPost_ret (a0f rfl rfl a0C r1 rfl) rfl ⟨ExtX.box (hE.trans (hE5.trans hE6)) r2 (by omega),_,rfl,s6,a6,c6,l6,rfl,h61,h62,h7⟩
end Go.Proofs.YtkddecjkfdogiaaGreat
namespace Go.Rep
open Go.RowKit Go.Lim
def QV (h:Mem) (u:Value) (q:Rat):Prop:=∃s ao c m bo e d,u= .agg #[.bool s, .slice ao m.length c, .slice bo d.length e]/\m.length<=c/\d.length<=e/\Dig m/\Dig d/\m.length<=68719476736/\d.length<=68719476736/\Sl (a0b .u32) 1 h ao m/\Sl (a0b .u32) 1 h bo d/\b1k s m d=q
def QC (h:Mem) (u:Value) (q:Rat):Prop:=∃s ao c m bo e d,u= .agg #[.bool s, .slice ao m.length c, .slice bo d.length e]/\m.length<=c/\d.length<=e/\a4N s m d q/\Sl (a0b .u32) 1 h ao m/\Sl (a0b .u32) 1 h bo d
theorem QV.mono:a3c QV:=by rintro h h' u x hl ⟨s,ao,c,m,bo,e,d,rfl,h1,h2,h3,h4,h5,h6,h7,h8,h9⟩;exact⟨s,ao,c,m,bo,e,d,rfl,h1,h2,h3,h4,h5,h6,h7.mono (a0b.mono _) hl,h8.mono (a0b.mono _) hl,h9⟩
theorem QC.mono:a3c QC:=by rintro h h' u x hl ⟨s,ao,c,m,bo,e,d,rfl,h1,h2,h3,h7,h8⟩;exact⟨s,ao,c,m,bo,e,d,rfl,h1,h2,h3,h7.mono (a0b.mono _) hl,h8.mono (a0b.mono _) hl⟩
theorem b4T (q:Rat):lg (dn q)<=hq q:=b4G q
theorem QC.qv {h:Mem} {u:Value} {q:Rat} (hu:QC h u q) (hn:hq q<=68719476736):QV h u q:=by
 obtain⟨s,ao,c,m,bo,e,d,rfl,h1,h2,h3,h7,h8⟩:=hu;have a1:=a1k q;have a2:=b4T q;exact⟨s,ao,c,m,bo,e,d,rfl,h1,h2,h3.1.2.1,h3.2.1,by rw[h3.1.len];omega,by rw[h3.2.len];omega,h7,h8,h3.val⟩
theorem QC.zero (h:Mem):QC h (.agg #[.bool false, .slice none 0 0, .slice none 0 0]) 0:=⟨false,none,0,[],none,0,[],rfl,Nat.le_refl _,Nat.le_refl _,a4N.zero,Sl.nil _ _ _ _,Sl.nil _ _ _ _⟩
theorem QV.hq {h:Mem} {u:Value} {q:Rat} (hu:QV h u q):hq q<=68719476736:=by
 obtain⟨s,ao,c,m,bo,e,d,rfl,h1,h2,h3,h4,h5,h6,h7,h8,rfl⟩:=hu;exact a9P s m d _ h3 h4 h5 h6 (by omega)
theorem QV.elem:Elem QV 3:=⟨QV.mono,by rintro h u x ⟨s,ao,c,m,bo,e,d,rfl,_⟩;rfl,by
 rintro h u x ⟨s,ao,c,m,bo,e,d,rfl,_⟩ v hv;simp[a0g,Value.cells]at hv;rcases hv with rfl|rfl|rfl<;>rfl,by decide⟩
theorem QC.elem:Elem QC 3:=⟨QC.mono,by rintro h u x ⟨s,ao,c,m,bo,e,d,rfl,_⟩;rfl,by
 rintro h u x ⟨s,ao,c,m,bo,e,d,rfl,_⟩ v hv;simp[a0g,Value.cells]at hv;rcases hv with rfl|rfl|rfl<;>rfl,by decide⟩
theorem QC.num {h:Mem} {s:Bool} {ao bo:Option Addr} {n c k e:Nat} {q:Rat} (hu:QC h (.agg #[.bool s, .slice ao n c, .slice bo k e]) q):ZC h (.agg #[.bool s, .slice ao n c]) q.num/\NC h (.slice ao n c) q.num.natAbs/\NC h (.slice bo k e) (dn q):=by
 obtain⟨_,_,_,m,_,_,d,heq,h1,h2,h3,h7,h8⟩:=hu;simp only[Value.agg.injEq,Array.mk.injEq,List.cons.injEq,Value.bool.injEq,Value.slice.injEq,and_true]at heq;obtain⟨rfl,⟨rfl,rfl,rfl⟩,rfl,rfl,rfl⟩:=heq;exact⟨⟨_,_,_,_,rfl,h1,h3.1,h7⟩,⟨_,_,_,rfl,h1,h3.1.2,h7⟩,⟨_,_,_,rfl,h2,h3.2,h8⟩⟩
theorem QC.shape {h:Mem} {u:Value} {q:Rat} (hu:QC h u q):∃s ao n c bo k e,u= .agg #[.bool s, .slice ao n c, .slice bo k e]:=by
 obtain⟨s,ao,c,m,bo,e,d,rfl,_⟩:=hu;exact⟨_,_,_,_,_,_,_,rfl⟩
theorem QV.shape {h:Mem} {u:Value} {q:Rat} (hu:QV h u q):∃s ao n c bo k e,u= .agg #[.bool s, .slice ao n c, .slice bo k e]:=by
 obtain⟨s,ao,c,m,bo,e,d,rfl,_⟩:=hu;exact⟨_,_,_,_,_,_,_,rfl⟩
theorem QC.of {h:Mem} {s:Bool} {ao bo:Option Addr} {n c k e:Nat} {q:Rat} (h1:ZC h (.agg #[.bool s, .slice ao n c]) q.num) (h2:NC h (.slice bo k e) (dn q)):QC h (.agg #[.bool s, .slice ao n c, .slice bo k e]) q:=by
 obtain⟨_,_,_,m,heq,a1,a2,a3⟩:=h1;simp only[Value.agg.injEq,Array.mk.injEq,List.cons.injEq,Value.bool.injEq,Value.slice.injEq,and_true]at heq;obtain⟨rfl,rfl,rfl,rfl⟩:=heq;obtain⟨_,_,d,heq,b1,b2,b3⟩:=h2;simp only[Value.slice.injEq]at heq;obtain⟨rfl,rfl,rfl⟩:=heq;exact⟨_,_,_,_,_,_,_,rfl,a1,b1,⟨a2,b2⟩,a3,b3⟩
theorem NC.len0 {h:Mem} {ao:Option Addr} {n c k:Nat} (hu:NC h (.slice ao n c) k):n=0↔k=0:=by
 obtain⟨_,_,d,heq,b1,b2,b3⟩:=hu;simp only[Value.slice.injEq]at heq;obtain⟨rfl,rfl,rfl⟩:=heq;exact a0V b2
theorem a3M (q:Rat):dn q=0↔q.den=1:=by
 unfold dn;split
 ·simp[*]
 ·have:=q.den_nz;omega
end Go.Rep
namespace Go.Proofs.YtkddecjkfdogiaaGreat
open Go.RowKit Go.Rep Go.Lim
theorem a0w:a1F Tryz.prog 32 3:=by
 have h:(Tryz.prog.info? 32).map (fun i=>(i.zero,i.size,i.bytes))=some (some (.agg #[.bool false, .slice none 0 0, .slice none 0 0]),3,56):=by kernel_rfl
 obtain⟨ti,h1,_,h2,_⟩:=info_parts h;exact⟨_,ti,Tryz.underlying32,h1,h2⟩
theorem a3n (s:Bool) (ao bo:Option Addr) (n c k e:Nat):∀v∈(#[Value.bool s, .slice ao n c, .slice bo k e]:Array Value).toList,v.oneCell'=true:=by
 intro v hv;simp at hv;rcases hv with rfl|rfl|rfl<;>rfl
theorem b5G (X:Nat->Bool) (w:World) (hX:HX X w):Calls Tryz.prog 230 #[] w (a2w X w NC 1):=by
 have h:=NC.lit hX 1 118 (by omega) (by omega);have hE:Ext w (w.alloc (.cells #[.int .u32 ((1:Nat):Int)] 118)):=(ExtX.refl w).alloc _;go_enter Tryz.func230,Tryz.ntmps230
 go_wp2_with fail
 go_ret
 exact⟨hE,_,rfl,h⟩
theorem a8e (X:Nat->Bool) (w:World) (u:Value) (q:Rat) (hX:HX X w) (hu:QC (mk X w) u q):Calls Tryz.prog 173 #[u] w (a2w X w NC q.den):=by
 obtain⟨s,ao,n,c,bo,k,e,rfl⟩:=hu.shape;obtain⟨W,hW,hE,b0,hz⟩:=a1L w #[.bool s, .slice ao n c, .slice bo k e] 32;have hXW:HX X W:=hX.ext hE;have hd:=mkx NC.mono hu.num.2.2 hE;have hl:=hd.len0;rw[a3M]at hl;obtain⟨b,hb⟩:∃b,w.heap.size=b:=⟨_,rfl⟩;rw[hb]at b0 hz;have k02:=b0.cell 2 rfl;by_cases h0:k=0
 ·have hf:=hid (hl.1 h0)
  subst h0;clear hl hd;go_enter Tryz.func173,Tryz.ntmps173
  go_wp2_with fail
  refine(b5G X W hXW).mono ?_;rintro e w5 ⟨hE5,u5,rfl,hu5⟩;go_wp2_with fail
  go_ret
  exact⟨hE.trans hE5,_,rfl,by rw[hf.out];exact hu5⟩
 ·have hf:Hid (dn q=q.den):=hid (by unfold dn;rw[if_neg (fun h=>h0 (hl.2 h))])
  have hI:((k:Int)==0)=false:=a3E (by omega);clear hl h0;go_enter Tryz.func173,Tryz.ntmps173
  go_wp2_with fail
  go_ret
  exact⟨hE,_,rfl,by rw[<-hf.out];exact hd⟩
end Go.Proofs.YtkddecjkfdogiaaGreat
namespace Go.Rep
open Go.RowKit Go.Lim
theorem QV.agg:∀h u y,QV h u y->∃cs,u= .agg cs:=by rintro h u x ⟨s,ao,c,m,bo,e,d,rfl,_⟩;exact⟨_,rfl⟩
theorem QC.agg:∀h u y,QC h u y->∃cs,u= .agg cs:=by rintro h u x ⟨s,ao,c,m,bo,e,d,rfl,_⟩;exact⟨_,rfl⟩
def a8f (R:Mem->Value->Rat->Prop):Prop:=∀h u q,R h u q->∃s ao n c bo k e,u= .agg #[.bool s, .slice ao n c, .slice bo k e]
theorem QC.shaped:a8f QC:=fun _ _ _ h=>h.shape
theorem QV.shaped:a8f QV:=fun _ _ _ h=>h.shape
theorem Sl.rat {R:Mem->Value->Rat->Prop} (hR:a8f R) {X:Nat->Bool} {w:World} {ao:Option Addr} {l:List Rat} (s:Sl R 3 (mk X w) ao l) (i:Nat) (hi:i<l.length):
  ∃g o sg a n c d k e,adr ao (i*3)=⟨g,o,none⟩/\X g=false/\Hid (∀Y W',ExtX Y w W'->Y g=false->W'.cell? ⟨g,o,none⟩=some (.bool sg)/\W'.cell? ⟨g,o+1,none⟩=some (.slice a n c)/\W'.cell? ⟨g,o+2,none⟩=some (.slice d k e))/\R (mk X w) (.agg #[.bool sg, .slice a n c, .slice d k e]) l[i]:=by
 obtain⟨u,h1,h2,h3⟩:=s.2 i hi;obtain⟨sg,a,n,c,d,k,e,rfl⟩:=hR _ _ _ h3;have c0:=h2 0 (by simp[Value.cells]);have c1:=h2 1 (by simp[Value.cells]);have c2:=h2 2 (by simp[Value.cells]);refine⟨(adr ao (i*3)).block,(adr ao (i*3)).off,sg,a,n,c,d,k,e,rfl,?_,hid fun Y W' hE hY=>⟨?_,?_,?_⟩,h3⟩
 ·cases hx:X (adr ao (i*3)).block
  ·rfl
  ·have c9:mk X w (adr ao (i*3))=some (.bool sg):=c0
   simp[mk,hx]at c9
 ·exact hE.cellY (a1q c0) hY
 ·exact hE.cellY (a1q c1) hY
 ·exact hE.cellY (a1q c2) hY
abbrev RC:Mem->Value->List Rat->Prop:=SlV QC 3
abbrev RV:Mem->Value->List Rat->Prop:=SlV QV 3
abbrev MC:Mem->Value->List (List Rat)->Prop:=SlV RC 1
abbrev MV:Mem->Value->List (List Rat)->Prop:=SlV RV 1
theorem RC.mono:a3c RC:=SlV.mono QC.mono 3
theorem RV.mono:a3c RV:=SlV.mono QV.mono 3
theorem MC.mono:a3c MC:=SlV.mono RC.mono 1
theorem MV.mono:a3c MV:=SlV.mono RV.mono 1
theorem RC.elem:Elem RC 1:=SlV.elem QC.elem
theorem RV.elem:Elem RV 1:=SlV.elem QV.elem
def BR (B:Nat) (l:List Rat):Prop:=∀q∈l,hq q<=B
def BM (B:Nat) (m:List (List Rat)):Prop:=∀r∈m,BR B r
theorem Sl.qv {h:Mem} {ao:Option Addr} {l:List Rat} (s:Sl QC 3 h ao l) (hb:BR 68719476736 l):Sl QV 3 h ao l:=
 ⟨s.1,fun i hi=>let ⟨u,h1,h2,h3⟩:=s.2 i hi;⟨u,h1,h2,h3.qv (hb _ (List.getElem_mem _))⟩⟩
theorem RC.rv {h:Mem} {u:Value} {l:List Rat} (s:RC h u l) (hb:BR 68719476736 l):RV h u l:=by
 obtain⟨ao,c,rfl,h1,h2⟩:=s;exact⟨ao,c,rfl,h1,h2.qv hb⟩
theorem MC.mv {h:Mem} {u:Value} {m:List (List Rat)} (s:MC h u m) (hb:BM 68719476736 m):MV h u m:=by
 obtain⟨ao,c,rfl,h1,h2,h3⟩:=s;exact⟨ao,c,rfl,h1,h2,fun i hi=>let ⟨u,k1,k2,k3⟩:=h3 i hi;⟨u,k1,k2,RC.rv k3 (hb _ (List.getElem_mem _))⟩⟩
theorem Sl.row {R:Mem->Value->Rat->Prop} {X:Nat->Bool} {w:World} {ao:Option Addr} {m:List (List Rat)} (s:Sl (SlV R 3) 1 (mk X w) ao m) (i:Nat) (hi:i<m.length):
  ∃a c,X (adr ao i).block=false/\Hid (∀Y W',ExtX Y w W'->Y (adr ao i).block=false->W'.cell? (adr ao i)=some (.slice a m[i].length c))/\m[i].length<=c/\Sl R 3 (mk X w) a m[i]:=by
 obtain⟨u,h1,a,c,rfl,h2,h3⟩:=s.cell SlV.one i hi;refine⟨a,c,?_,hid fun Y W' hE hY=>hE.cellY (a1q h1) hY,h2,h3⟩;cases hx:X (adr ao i).block
 ·rfl
 ·simp[mk,hx]at h1
end Go.Rep
namespace Go.Proofs.YtkddecjkfdogiaaGreat
open Go.RowKit Go.Rep Go.Lim
theorem a0E:SliceT Tryz.prog 45 32 3 56 (.agg #[.bool false, .slice none 0 0, .slice none 0 0]):=⟨Tryz.underlying45,by kernel_rfl⟩
theorem a0r:SliceT Tryz.prog 25 45 1 24 (.slice none 0 0):=⟨Tryz.underlying25,by kernel_rfl⟩
theorem b3p:(Tryz.prog.info? 45).map (fun i=>(i.zero,i.size,i.bytes))=some (some (.slice none 0 0),1,24):=by kernel_rfl
theorem a6E:TyI Tryz.prog 45 1:=let ⟨i,h,_,h2,_⟩:=info_parts b3p;⟨i,h,h2⟩
theorem a6c:TyI Tryz.prog 32 3:=let ⟨_,ti,_,h2,h3⟩:=a0w;⟨ti,h2,h3⟩
end Go.Proofs.YtkddecjkfdogiaaGreat
namespace Go.Rep
open Go.RowKit
theorem a5E {α:Type} {R:Mem->Value->α->Prop} (hR:a3c R) {X:Nat->Bool} {w w':World} {oo:Option Addr} {u:Value} {x:α} (h:R (mk X w) u x) (hE:Ext w w') (hb:∀j,j<w.heap.size->ob oo j=false):R (mk (un X oo) w') u x:=
 hR _ _ _ _ (a0R hE (fun k _ hk=>by simp[noY]at hk) fun j hk hz=>by simpa[un,hb j hk]using hz) h
section
variable {P:Program} {ops:Array Oper} {Q:Exit->Act->World->Prop} {a:Act} {w:World}
variable {α:Type} {R:Mem->Value->α->Prop} {sz:Nat} {X:Nat->Bool} {base:Nat} {e:TypeId} {ao:Option Addr} {cap:Nat} {l:List α}
theorem a2A {o:Oper} {K:Act->World->Prop} {E:Prop} {t by_:Nat} {z:Value} {arr:Array Value} {s x:Operand}
  (hg:o.guard=none) (hop:o.op=Op.call {callee:=Callee.builtin Builtin.append,args:=#[s,x],argTypes:=#[t,t]}) (T:SliceT P t e sz by_ z) (hzs:z.cells.size=sz) (hR:Elem R sz) (hbase:base<=w.heap.size) (hX:∀k,X k=true->k<w.heap.size) (n:Nat) (hn:l.length=n)
  (hs:a.eval s= .slice ao n cap) (hx:a.eval x= .slice (some ⟨w.heap.size,0,none⟩) 1 1) (h:OL R sz X base e w ao cap l)
  (u:Value) (y:α) (harr:arr=u.cells) (hu:R (mk (un X ao) w) u y) (hroom:(n+1)*by_<=140737488355328) (hmax:n+1<=9223372036854775807)
  (hK:∀ao' cap' w',OL R sz X base e w' ao' cap' (l++[y])->ExtX (ob ao) w w'->(ao'=ao\/∃g,ao'=some ⟨g,0,none⟩/\w.heap.size<=g)->K (a.put o.dst (.slice ao' (n+1) cap')) w'):
  if Region.wanted o (yielded ops a.tmps)=true then Oper.wp P o a (w.alloc (.cells arr e)) K Q else E:=by
 have hw:Region.wanted o (yielded ops a.tmps)=true:=by simp[Region.wanted,hg]
 rw[if_pos hw];subst hn;have hE:Ext w (w.alloc (.cells arr e)):=(ExtX.refl w).alloc _;have hsz:w.heap.size+1=(w.alloc (.cells arr e)).heap.size:=by simp
 obtain⟨ao',cap',w',hr,h2,h3,h4⟩:=(h.ext0 hR hE).run_append (P:=P) T hzs hR (by omega) (fun k hk=>by have:=hX k hk;omega) (some ⟨w.heap.size,0,none⟩) 1 [u] [y] (b2o w arr e u harr) rfl
  (fun i hi _=>by
           have:i=0:=by simpa using hi
           subst this;exact hR.mono _ _ _ _ (a0o hE) hu) (by simpa using hroom) (by simpa using hmax) o.type
 unfold Oper.wp execOp;rw[hop];simp only[resolve,invoke,builtin,Sem.run_bind,Sem.run_pure,Result.andThen_ok,List.map_toArray,List.map_cons,List.map_nil,hs,hx];rw[show([y]:List α).length=1 from rfl]at hr;rw[hr];have:=hK ao' cap' w' h2 ((ExtX.of hE).trans h3) (by
  rcases h4 with h4|⟨g,h4,h5⟩
  ·exact .inl h4
  ·exact .inr ⟨g,h4,by omega⟩)
 rw[show(l++[y]).length=l.length+1 from by simp];exact this
end
end Go.Rep
namespace Go.Lin
def sm:Nat->(Nat->Rat)->Rat
 |0,_=>0
 |n+1,f=>sm n f+f n
theorem a0k {n:Nat} {f g:Nat->Rat} (h:∀i,i<n->f i=g i):sm n f=sm n g:=by
 induction n with
 |zero=>rfl
 |succ n ih=>unfold sm;rw[ih fun i hi=>h i (by omega),h n (by omega)]
theorem a2U {n:Nat} {f:Nat->Rat} (h:∀i,i<n->f i=0):sm n f=0:=by
 induction n with
 |zero=>rfl
 |succ n ih=>unfold sm;rw[ih fun i hi=>h i (by omega),h n (by omega)];grind
theorem a6F (n:Nat) (f g:Nat->Rat):sm n (fun i=>f i+g i)=sm n f+sm n g:=by
 induction n with
 |zero=>unfold sm;grind
 |succ n ih=>unfold sm;rw[ih];grind
theorem a2Z (n:Nat) (a:Rat) (f:Nat->Rat):sm n (fun i=>a*f i)=a*sm n f:=by
 induction n with
 |zero=>unfold sm;grind
 |succ n ih=>unfold sm;rw[ih];grind
theorem a5e (n m:Nat) (f:Nat->Nat->Rat):sm n (fun i=>sm m (fun j=>f i j))=sm m (fun j=>sm n (fun i=>f i j)):=by
 induction n with
 |zero=>simp only[sm];rw[a2U];intros;rfl
 |succ n ih=>simp only[sm];rw[ih,a6F]
theorem a1U {n:Nat} {f:Nat->Rat} (k:Nat) (hk:k<n) (h:∀i,i<n->i≠k->f i=0):sm n f=f k:=by
 induction n with
 |zero=>omega
 |succ n ih=>
  unfold sm;by_cases e:k=n
  ·subst e;rw[a2U fun i hi=>h i (by omega) (by omega)];grind
  ·rw[ih (by omega) fun i hi hik=>h i (by omega) hik,h n (by omega) (by omega)];grind
theorem b2z (n:Nat) (f g:Nat->Rat):sm n (fun i=>f i - g i)=sm n f - sm n g:=by
 induction n with
 |zero=>unfold sm;grind
 |succ n ih=>unfold sm;rw[ih];grind
theorem b3q {n:Nat} {f g:Nat->Rat} (k:Nat) (hk:k<n) (h:∀i,i<n->i≠k->f i=g i) (h2:f k=g k):sm n f=sm n g:=
 a0k fun i hi=>by
             by_cases e:i=k
             ·subst e;exact h2
             ·exact h i hi e
theorem b2A {n:Nat} {f g:Nat->Rat} (i k:Nat) (hi:i<n) (hk:k<n) (hik:i≠k) (h:∀r,r<n->r≠i->r≠k->f r=g r) (h2:f i+f k=g i+g k):sm n f=sm n g:=by
 have e:sm n (fun r=>f r - g r)=0:=by
  have e1:∀r,r<n->(fun r=>f r - g r) r=(fun r=>(if r=i then f i - g i else 0)+(if r=k then f k - g k else 0)) r:=by
   intro r hr
   show f r - g r=_
   by_cases a:r=i
   ·subst a;simp[hik];grind
   ·by_cases b:r=k
    ·subst b;simp[a];grind
    ·simp[a,b];rw[h r hr a b];grind
  rw[a0k e1,a6F,a1U i hi (fun r _ hr=>by simp[hr]),a1U k hk (fun r _ hr=>by simp[hr])];simp;grind
 rw[b2z]at e;grind
abbrev F2:=Nat->Nat->Rat
def Eqm (n c:Nat) (f g:F2):Prop:=∀i,i<n->∀j,j<c->f i j=g i j
def Nul (n c:Nat) (f:F2) (x:Nat->Rat):Prop:=∀i,i<n->sm c (fun j=>f i j*x j)=0
inductive RE (n c:Nat):F2->F2->Rat->Prop
 |same {f g:F2} (h:Eqm n c f g):RE n c f g 1
 |swap {f g:F2} (i k:Nat) (hi:i<n) (hk:k<n) (hik:i≠k) (h1:∀j,j<c->g i j=f k j) (h2:∀j,j<c->g k j=f i j) (h3:∀r,r<n->r≠i->r≠k->∀j,j<c->g r j=f r j):RE n c f g (-1)
 |scale {f g:F2} (i:Nat) (a:Rat) (hi:i<n) (ha:a≠0) (h1:∀j,j<c->g i j=a*f i j) (h3:∀r,r<n->r≠i->∀j,j<c->g r j=f r j):RE n c f g a
 |add {f g:F2} (i k:Nat) (a:Rat) (hi:i<n) (hk:k<n) (hik:i≠k) (h1:∀j,j<c->g i j=f i j+a*f k j) (h3:∀r,r<n->r≠i->∀j,j<c->g r j=f r j):RE n c f g 1
 |trans {f g h:F2} {a b:Rat} (h1:RE n c f g a) (h2:RE n c g h b):RE n c f h (a*b)
theorem RE.ne {n c:Nat} {f g:F2} {d:Rat} (h:RE n c f g d):d≠0:=by
 induction h with
 |same=>grind
 |swap=>grind
 |scale=>assumption
 |add=>grind
 |trans _ _ ih1 ih2=>intro e;rcases Rat.mul_eq_zero.1 e with h|h<;>contradiction
theorem RE.nul {n c:Nat} {f g:F2} {d:Rat} (h:RE n c f g d) (x:Nat->Rat):Nul n c f x↔Nul n c g x:=by
 induction h with
 |same h=>
  constructor
  ·intro hn i hi;rw[<-hn i hi];exact a0k fun j hj=>by rw[h i hi j hj]
  ·intro hn i hi;rw[<-hn i hi];exact a0k fun j hj=>by rw[h i hi j hj]
 |swap i k hi hk hik h1 h2 h3=>
  constructor
  ·intro hn r hr
   by_cases a:r=i
   ·subst a;rw[<-hn k hk];exact a0k fun j hj=>by rw[h1 j hj]
   ·by_cases b:r=k
    ·subst b;rw[<-hn i hi];exact a0k fun j hj=>by rw[h2 j hj]
    ·rw[<-hn r hr];exact a0k fun j hj=>by rw[h3 r hr a b j hj]
  ·intro hn r hr
   by_cases a:r=i
   ·subst a;rw[<-hn k hk];exact a0k fun j hj=>by rw[h2 j hj]
   ·by_cases b:r=k
    ·subst b;rw[<-hn i hi];exact a0k fun j hj=>by rw[h1 j hj]
    ·rw[<-hn r hr];exact a0k fun j hj=>by rw[h3 r hr a b j hj]
 |@scale f g i a hi ha h1 h3=>
  have key:sm c (fun j=>g i j*x j)=a*sm c (fun j=>f i j*x j):=by
   rw[<-a2Z];exact a0k fun j hj=>by rw[h1 j hj];grind
  constructor
  ·intro hn r hr
   by_cases e:r=i
   ·subst e;rw[key,hn r hr];grind
   ·rw[<-hn r hr];exact a0k fun j hj=>by rw[h3 r hr e j hj]
  ·intro hn r hr
   by_cases e:r=i
   ·subst e;have:=hn r hr;rw[key]at this;rcases Rat.mul_eq_zero.1 this with h|h
    ·contradiction
    ·exact h
   ·rw[<-hn r hr];exact a0k fun j hj=>by rw[h3 r hr e j hj]
 |@add f g i k a hi hk hik h1 h3=>
  have key:sm c (fun j=>g i j*x j)=sm c (fun j=>f i j*x j)+a*sm c (fun j=>f k j*x j):=by
   rw[<-a2Z,<-a6F];exact a0k fun j hj=>by rw[h1 j hj];grind
  constructor
  ·intro hn r hr
   by_cases e:r=i
   ·subst e;rw[key,hn r hr,hn k hk];grind
   ·rw[<-hn r hr];exact a0k fun j hj=>by rw[h3 r hr e j hj]
  ·intro hn r hr
   by_cases e:r=i
   ·subst e
    have h4:=hn r hr;rw[key]at h4;have h5:=hn k hk;rw[show sm c (fun j=>g k j*x j)=sm c (fun j=>f k j*x j)from a0k fun j hj=>by rw[h3 k hk (by omega) j hj]]at h5;rw[h5]at h4;grind
   ·rw[<-hn r hr];exact a0k fun j hj=>by rw[h3 r hr e j hj]
 |trans _ _ ih1 ih2=>exact ih1.trans ih2
def cmb (n:Nat) (f:F2) (y:Nat->Rat) (j:Nat):Rat:=sm n fun i=>y i*f i j
def LI (n c:Nat) (f:F2):Prop:=∀y:Nat->Rat,(∀j,j<c->cmb n f y j=0)->∀i,i<n->y i=0
theorem RE.li {n c:Nat} {f g:F2} {d:Rat} (h:RE n c f g d) (hf:LI n c f):LI n c g:=by
 induction h with
 |same h=>
  intro y hy;exact hf y fun j hj=>by rw[<-hy j hj];exact a0k fun i hi=>by rw[h i hi j hj]
 |@swap f g i k hi hk hik h1 h2 h3=>
  intro y hy;have:=hf (fun r=>if r=i then y k else if r=k then y i else y r) fun j hj=>by
   rw[<-hy j hj];refine b2A i k hi hk hik (fun r hr a b=>?_) ?_
   ·simp[a,b,h3 r hr a b j hj]
   ·simp[hik.symm,h1 j hj,h2 j hj];grind
  intro r hr;by_cases a:r=i
  ·subst a;simpa[hik.symm]using this k hk
  ·by_cases b:r=k
   ·subst b;simpa using this i hi
   ·simpa[a,b]using this r hr
 |@scale f g i a hi ha h1 h3=>
  intro y hy;have:=hf (fun r=>if r=i then a*y i else y r) fun j hj=>by
   rw[<-hy j hj];refine b3q i hi (fun r hr e=>?_) ?_
   ·simp[e,h3 r hr e j hj]
   ·simp[h1 j hj];grind
  intro r hr;by_cases e:r=i
  ·subst e
   have h4:=this r hr;simp only[if_true]at h4;rcases Rat.mul_eq_zero.1 h4 with h4|h4
   ·contradiction
   ·exact h4
  ·simpa[e]using this r hr
 |@add f g i k a hi hk hik h1 h3=>
  intro y hy;have:=hf (fun r=>if r=k then y k+a*y i else y r) fun j hj=>by
   rw[<-hy j hj];refine b2A i k hi hk hik (fun r hr a b=>?_) ?_
   ·simp[b,h3 r hr a j hj]
   ·simp[hik,h1 j hj,h3 k hk hik.symm j hj];grind
  intro r hr;have hyi:y i=0:=by simpa[hik]using this i hi
  by_cases e:r=k
  ·subst e
   have h4:=this r hr;simp[hyi]at h4;grind
  ·simpa[e]using this r hr
 |trans _ _ ih1 ih2=>exact ih2 (ih1 hf)
structure Rref (n c:Nat) (f:F2) (p:List Nat):Prop where
 le:p.length<=n
 lt:∀i (hi:i<p.length),p[i]<c
 inc:∀i k (hik:i<k) (hk:k<p.length),p[i]<p[k]
 left:∀i (hi:i<p.length),∀j,j<p[i]->f i j=0
 one:∀i (hi:i<p.length),f i p[i]=1
 zero:∀k (hk:k<p.length),∀i,i<n->i≠k->f i p[k]=0
 below:∀i,p.length<=i->i<n->∀j,j<c->f i j=0
def nv (f:F2) (p:List Nat) (j:Nat):Nat->Rat:=fun x=>if x=j then 1 else match p.findIdx? (· ==x)with|some i=> - f i j|none=>0
theorem Rref.idx {n c:Nat} {f:F2} {p:List Nat} (h:Rref n c f p) (i:Nat) (hi:i<p.length):p.findIdx? (· ==p[i])=some i:=by
 rw[List.findIdx?_eq_some_iff_getElem];refine⟨hi,by simp,fun j hj=>?_⟩;have:=h.inc j i hj hi;simp;omega
theorem a4O {p:List Nat} {x:Nat} (h:x∉p):p.findIdx? (· ==x)=none:=by
 rw[List.findIdx?_eq_none_iff];intro y hy;simp;rintro rfl;exact h hy
theorem Rref.nv_piv {n c:Nat} {f:F2} {p:List Nat} (h:Rref n c f p) {j:Nat} (hj:j∉p) (i:Nat) (hi:i<p.length):nv f p j p[i]= - f i j:=by
 unfold nv;rw[if_neg (by rintro e;exact hj (e▸List.getElem_mem _)),h.idx i hi]
theorem a5f {f:F2} {p:List Nat} (j:Nat):nv f p j j=1:=by simp[nv]
theorem a7x {f:F2} {p:List Nat} {j x:Nat} (hx:x∉p) (hj:x≠j):nv f p j x=0:=by
 unfold nv;rw[if_neg hj,a4O hx]
theorem Rref.row {n c:Nat} {f:F2} {p:List Nat} (h:Rref n c f p) (i:Nat) (hi:i<p.length) (x:Nat->Rat):sm c (fun j=>f i j*x j)=x p[i]+sm c (fun j=>if j∈p then 0 else f i j*x j):=by
 have e:sm c (fun j=>f i j*x j)=sm c (fun j=>(if j=p[i]then x p[i]else 0)+(if j∈p then 0 else f i j*x j)):=by
  refine a0k fun j hj=>?_;by_cases hp:j∈p
  ·obtain⟨k,hk,rfl⟩:=List.getElem_of_mem hp
   by_cases hki:i=k
   ·subst hki;simp[h.one i hi];grind
   ·have hne:p[k]≠p[i]:=by
     rcases Nat.lt_or_gt_of_ne hki with a|a
     ·have:=h.inc i k a hk;omega
     ·have:=h.inc k i a hi;omega
    simp[hne,h.zero k hk i (Nat.lt_of_lt_of_le hi h.le) hki];grind
  ·have hne:j≠p[i]:=by rintro rfl;exact hp (List.getElem_mem _)
   simp[hp,hne];grind
 rw[e,a6F,a1U p[i] (h.lt i hi) (fun j _ hj=>by simp[hj])];simp
theorem Rref.nv_nul {n c:Nat} {f:F2} {p:List Nat} (h:Rref n c f p) {j:Nat} (hj:j∉p) (hjc:j<c):Nul n c f (nv f p j):=by
 intro i hi;by_cases hip:i<p.length
 ·rw[h.row i hip,h.nv_piv hj i hip,a1U j hjc]
  ·simp[hj,a5f];grind
  ·intro k _ hkj
   by_cases hp:k∈p
   ·simp[hp]
   ·simp[hp,a7x hp hkj]
 ·exact a2U fun k hk=>by rw[h.below i (by omega) hi k hk];grind
theorem Rref.nv_supp {n c:Nat} {f:F2} {p:List Nat} (h:Rref n c f p) {j:Nat} (hj:j∉p) {x:Nat} (hx:j<x):nv f p j x=0:=by
 by_cases hp:x∈p
 ·obtain⟨k,hk,rfl⟩:=List.getElem_of_mem hp
  rw[h.nv_piv hj k hk,h.left k hk j hx];grind
 ·exact a7x hp (by omega)
theorem Rref.sub {n c:Nat} {f g:F2} {p q:List Nat} (hf:Rref n c f p) (hg:Rref n c g q) (hn:∀x,Nul n c f x->Nul n c g x) (j:Nat) (hj:j∈q):j∈p:=by
 refine Classical.byContradiction fun hjp=>?_;obtain⟨k,hk,rfl⟩:=List.getElem_of_mem hj;have h1:=hn _ (hf.nv_nul hjp (hg.lt k hk)) k (Nat.lt_of_lt_of_le hk hg.le);rw[a1U q[k] (hg.lt k hk)]at h1
 ·rw[hg.one k hk,a5f]at h1;grind
 ·intro x _ hx
  rcases Nat.lt_or_gt_of_ne hx with a|a
  ·rw[hg.left k hk x a];grind
  ·rw[hf.nv_supp hjp a];grind
theorem a8g:∀(p q:List Nat),p.Pairwise (· < ·)->q.Pairwise (· < ·)->(∀x,x∈p↔x∈q)->p=q
 | [],[],_,_,_=>rfl
 | [],b::q,_,_,h=>by have:=(h b).2 (by simp);simp at this
 |a::p,[],_,_,h=>by have:=(h a).1 (by simp);simp at this
 |a::p,b::q,hp,hq,h=>by
  rw[List.pairwise_cons]at hp hq;have hab:a=b:=by
   have h1:=(h a).1 (by simp);have h2:=(h b).2 (by simp);simp at h1 h2;rcases h1 with h1|h1
   ·exact h1
   ·rcases h2 with h2|h2
    ·exact h2.symm
    ·have:=hq.1 a h1;have:=hp.1 b h2;omega
  subst hab;rw[a8g p q hp.2 hq.2];intro x;have h3:=h x;simp at h3;constructor
  ·intro hx
   have:=hp.1 x hx;rcases h3.1 (.inr hx)with e|e
   ·omega
   ·exact e
  ·intro hx
   have:=hq.1 x hx;rcases h3.2 (.inr hx)with e|e
   ·omega
   ·exact e
theorem Rref.pw {n c:Nat} {f:F2} {p:List Nat} (h:Rref n c f p):p.Pairwise (· < ·):=by
 rw[List.pairwise_iff_getElem];intro i j hi hj hij;exact h.inc i j hij hj
theorem Rref.unique {n c:Nat} {f g:F2} {p q:List Nat} (hf:Rref n c f p) (hg:Rref n c g q) (hn:∀x,Nul n c f x↔Nul n c g x):p=q/\Eqm n c f g:=by
 have hpq:p=q:=a8g p q hf.pw hg.pw fun x=>⟨hg.sub hf (fun x h=>(hn x).2 h) x,hf.sub hg (fun x h=>(hn x).1 h) x⟩;subst hpq;refine⟨rfl,fun i hi j hj=>?_⟩;by_cases hip:i<p.length
 ·by_cases hjp:j∈p
  ·obtain⟨k,hk,rfl⟩:=List.getElem_of_mem hjp
   by_cases e:i=k
   ·subst e;rw[hf.one i hip,hg.one i hip]
   ·rw[hf.zero k hk i hi e,hg.zero k hk i hi e]
  ·have h1:=(hn _).1 (hf.nv_nul hjp hj) i hi
   rw[hg.row i hip,hf.nv_piv hjp i hip,a1U j hj]at h1
   ·simp[hjp,a5f]at h1;grind
   ·intro k _ hkj
    by_cases hp:k∈p
    ·simp[hp]
    ·simp[hp,a7x hp hkj]
 ·rw[hf.below i (by omega) hi j hj,hg.below i (by omega) hi j hj]
theorem RE.cast {n c:Nat} {f g:F2} {a b:Rat} (h:RE n c f g a) (e:a=b):RE n c f g b:=e▸h
theorem RE.then_ {n c:Nat} {f g h:F2} {a b d:Rat} (h1:RE n c f g a) (h2:RE n c g h b) (e:a*b=d):RE n c f h d:=e▸h1.trans h2
theorem RE.addmany {n c:Nat} {f g:F2} (k:Nat) (hk:k<n) (a:Nat->Rat) (h1:∀i,i<n->i≠k->∀j,j<c->g i j=f i j+a i*f k j) (h2:∀j,j<c->g k j=f k j):RE n c f g 1:=by
 have key:∀t,t<=n->RE n c f (fun i j=>if i<t then g i j else f i j) 1:=by
  intro t
  induction t with
  |zero=>intro _;exact .same fun i _ j _=>by simp
  |succ t ih=>
   intro ht;refine(ih (by omega)).then_ (b:=1) ?_ (by grind);by_cases e:t=k
   ·subst e
    refine .same fun i hi j hj=>?_;by_cases a:i<t
    ·simp[a,show i<t+1 by omega]
    ·by_cases b:i=t
     ·subst b;simp[h2 j hj]
     ·simp[a,show¬i<t+1 by omega]
   ·refine .add t k (a t) (by omega) hk e (fun j hj=>?_) (fun r hr hrt j hj=>?_)
    ·have h3:=h1 t (by omega) e j hj
     by_cases b:k<t
     ·simp[b,h3,h2 j hj]
     ·simp[b,h3]
    ·by_cases a:r<t
     ·simp[a,show r<t+1 by omega]
     ·simp[a,show¬r<t+1 by omega]
 refine(key n (Nat.le_refl _)).then_ (.same fun i hi j hj=>?_) (by grind);simp[hi]
structure Ech (n k:Nat) (f:F2) (p:List Nat):Prop where
 le:p.length<=n
 lt:∀i (hi:i<p.length),p[i]<k
 inc:∀i k (hik:i<k) (hk:k<p.length),p[i]<p[k]
 left:∀i (hi:i<p.length),∀j,j<p[i]->f i j=0
 piv:∀i (hi:i<p.length),f i p[i]≠0
 below:∀i,p.length<=i->i<n->∀j,j<k->f i j=0
theorem Ech.nil (n:Nat) (f:F2):Ech n 0 f []:=⟨by simp,by simp,by simp,by simp,by simp,by intros;omega⟩
theorem Ech.skip {n k:Nat} {f:F2} {p:List Nat} (h:Ech n k f p) (hz:∀i,p.length<=i->i<n->f i k=0):Ech n (k+1) f p:=
 ⟨h.le,fun i hi=>Nat.lt_succ_of_lt (h.lt i hi),h.inc,h.left,h.piv,fun i hi hn j hj=>by
  by_cases e:j=k
  ·subst e;exact hz i hi hn
  ·exact h.below i hi hn j (by omega)⟩
theorem a9X {p:List Nat} {k:Nat} (h:∀i (hi:i<p.length),p[i]<k) (i:Nat) (hi:i<(p++[k]).length):(p++[k])[i]<k+1:=by
 rw[List.getElem_append];split
 ·have:=h i (by assumption);omega
 ·simp
theorem a8h {p:List Nat} {c:Nat} (h:∀i (hi:i<p.length),p[i]<c) (h2:∀i k (hik:i<k) (hk:k<p.length),p[i]<p[k]) (i k:Nat) (hik:i<k) (hk:k<(p++[c]).length):(p++[c])[i]<(p++[c])[k]:=by
 simp at hk;rw[List.getElem_append,List.getElem_append];by_cases a:k<p.length
 ·simp[a,show i<p.length by omega];exact h2 i k hik a
 ·simp[a,show i<p.length by omega];exact h i (by omega)
theorem Ech.push {n k:Nat} {f g:F2} {p:List Nat} (h:Ech n k f p) (hp:p.length<n) (h0:∀i,i<p.length->∀j,g i j=f i j)
  (hz:∀i,p.length<=i->i<n->∀j,j<k->g i j=0) (hne:g p.length k≠0) (hb:∀i,p.length<i->i<n->g i k=0):Ech n (k+1) g (p++[k]):=by
 refine⟨by simp;omega,a9X h.lt,a8h h.lt h.inc,fun i hi j hj=>?_,fun i hi=>?_,fun i hi hn j hj=>?_⟩
 ·simp at hi
  rw[List.getElem_append]at hj;by_cases a:i<p.length
  ·simp[a]at hj;rw[h0 i a];exact h.left i a j hj
  ·simp[a]at hj;exact hz i (by omega) (by omega) j hj
 ·simp at hi
  rw[List.getElem_append];by_cases a:i<p.length
  ·simp only[a,dite_true];rw[h0 i a];exact h.piv i a
  ·obtain rfl:i=p.length:=by omega
   simpa using hne
 ·simp at hi
  by_cases e:j=k
  ·subst e;exact hb i (by omega) hn
  ·exact hz i (by omega) hn j (by omega)
structure Red (n t:Nat) (f:F2) (p:List Nat):Prop where
 one:∀i (hi:i<p.length),i<t->f i p[i]=1
 zero:∀k (hk:k<p.length),k<t->∀i,i<n->i≠k->f i p[k]=0
theorem Ech.rref {n c:Nat} {f:F2} {p:List Nat} (h:Ech n c f p) (hr:Red n p.length f p):Rref n c f p:=
 ⟨h.le,h.lt,h.inc,h.left,fun i hi=>hr.one i hi hi,fun k hk=>hr.zero k hk hk,h.below⟩
theorem Ech.under {n c:Nat} {f:F2} {p:List Nat} (h:Ech n c f p) (k:Nat) (hk:k<p.length) (i:Nat) (hi:i<n) (hki:k<i):f i p[k]=0:=by
 by_cases a:i<p.length
 ·exact h.left i a _ (h.inc k i hki a)
 ·exact h.below i (by omega) hi _ (h.lt k hk)
theorem Red.step {n c t:Nat} {f g:F2} {p:List Nat} (h:Ech n c f p) (hr:Red n t f p) (ht:t<p.length)
  (h1:∀j,g t j=f t j/f t p[t]) (h2:∀i,i<t->∀j,g i j=f i j - f i p[t]*g t j) (h3:∀i,t<i->∀j,g i j=f i j):Ech n c g p/\Red n (t+1) g p:=by
 have hpv:=h.piv t ht;have hz:∀j,j<p[t]->g t j=0:=fun j hj=>by rw[h1,h.left t ht j hj];grind
 have hone:g t p[t]=1:=by rw[h1];grind
 refine⟨⟨h.le,h.lt,h.inc,fun i hi j hj=>?_,fun i hi=>?_,fun i hi hn j hj=>?_⟩,⟨fun i hi hit=>?_,fun k hk hkt i hi hik=>?_⟩⟩
 ·rcases Nat.lt_trichotomy i t with a|a|a
  ·rw[h2 i a,h.left i hi j hj,hz j (by have:=h.inc i t a ht;omega)];grind
  ·subst a;exact hz j hj
  ·rw[h3 i a];exact h.left i hi j hj
 ·rcases Nat.lt_trichotomy i t with a|a|a
  ·rw[h2 i a,hz _ (h.inc i t a ht)];have:=h.piv i hi;grind
  ·subst a;rw[hone];grind
  ·rw[h3 i a];exact h.piv i hi
 ·rw[h3 i (by omega)];exact h.below i hi hn j hj
 ·rcases Nat.lt_trichotomy i t with a|a|a
  ·rw[h2 i a,hz _ (h.inc i t a ht),hr.one i hi a];grind
  ·subst a;exact hone
  ·omega
 ·rcases Nat.lt_trichotomy k t with b|b|b
  ·have hzk:g t p[k]=0:=hz _ (h.inc k t b ht)
   rcases Nat.lt_trichotomy i t with a|a|a
   ·rw[h2 i a,hzk,hr.zero k hk b i hi hik];grind
   ·subst a;exact hzk
   ·rw[h3 i a];exact hr.zero k hk b i hi hik
  ·subst b
   rcases Nat.lt_trichotomy i k with a|a|a
   ·rw[h2 i a,hone];grind
   ·omega
   ·rw[h3 i a];exact h.under k hk i hi a
  ·omega
theorem Rref.skip {n k:Nat} {f:F2} {p:List Nat} (h:Rref n k f p) (hz:∀i,p.length<=i->i<n->f i k=0):Rref n (k+1) f p:=
 ⟨h.le,fun i hi=>Nat.lt_succ_of_lt (h.lt i hi),h.inc,h.left,h.one,h.zero,fun i hi hn j hj=>by
  by_cases e:j=k
  ·subst e;exact hz i hi hn
  ·exact h.below i hi hn j (by omega)⟩
theorem Rref.nil (n:Nat) (f:F2):Rref n 0 f []:=⟨by simp,by simp,by simp,by simp,by simp,by simp,by intros;omega⟩
theorem Rref.push {n k:Nat} {f g:F2} {p:List Nat} (h:Rref n k f p) (hp:p.length<n) (hne:f p.length k≠0)
  (h1:∀j,g p.length j=f p.length j*(1/f p.length k)) (h2:∀i,i<n->i≠p.length->∀j,g i j=f i j+g p.length j* - f i k):Rref n (k+1) g (p++[k]):=by
 have hz:∀j,j<k->g p.length j=0:=fun j hj=>by rw[h1,h.below _ (Nat.le_refl _) hp j hj];grind
 have hone:g p.length k=1:=by rw[h1];grind
 have hk0:∀i,i<n->i≠p.length->g i k=0:=fun i hi e=>by rw[h2 i hi e,hone];grind
 have hs:∀i,i<n->∀j,j<k->g i j=f i j:=fun i hi j hj=>by
  by_cases e:i=p.length
  ·subst e;rw[hz j hj,h.below _ (Nat.le_refl _) hp j hj]
  ·rw[h2 i hi e,hz j hj];grind
 refine⟨by simp;omega,a9X h.lt,a8h h.lt h.inc,fun i hi j hj=>?_,fun i hi=>?_,fun q hq i hi hiq=>?_,fun i hi hn j hj=>?_⟩
 ·simp at hi
  rw[List.getElem_append]at hj;by_cases a:i<p.length
  ·simp[a]at hj;rw[hs i (by omega) j (by have:=h.lt i a;omega)];exact h.left i a j hj
  ·simp[a]at hj;obtain rfl:i=p.length:=by omega
   exact hz j hj
 ·simp at hi
  rw[List.getElem_append];by_cases a:i<p.length
  ·simp only[a,dite_true];rw[hs i (by omega) _ (h.lt i a)];exact h.one i a
  ·obtain rfl:i=p.length:=by omega
   simpa using hone
 ·simp at hq
  rw[List.getElem_append];by_cases a:q<p.length
  ·simp only[a,dite_true];rw[hs i hi _ (h.lt q a)];exact h.zero q a i hi hiq
  ·obtain rfl:q=p.length:=by omega
   simpa using hk0 i hi hiq
 ·simp at hi
  by_cases e:j=k
  ·subst e;exact hk0 i hn (by omega)
  ·rw[hs i hn j (by omega)];exact h.below i (by omega) hn j (by omega)
abbrev Mat:=List (List Rat)
def ent (m:Mat):F2:=fun i j=>(m.getD i []).getD j 0
def Shp (n c:Nat) (m:Mat):Prop:=m.length=n/\∀r∈m,r.length=c
theorem Shp.row {n c:Nat} {m:Mat} (h:Shp n c m) {i:Nat} (hi:i<n):(m.getD i []).length=c:=by
 have:i<m.length:=by rw[h.1];exact hi
 simp[List.getD_eq_getElem?_getD,this,h.2]
theorem a1s {n c:Nat} {m:Mat} (h:Shp n c m) {i j:Nat} (hij:n<=i\/c<=j):ent m i j=0:=by
 unfold ent;by_cases hi:i<n
 ·have:=h.row hi
  rw[List.getD_eq_getElem?_getD,List.getElem?_eq_none (by omega)];rfl
 ·have:=h.1
  rw[List.getD_eq_getElem?_getD (l:=m),List.getElem?_eq_none (by omega)];simp
theorem Shp.ext {n c:Nat} {m m':Mat} (h:Shp n c m) (h':Shp n c m') (he:Eqm n c (ent m) (ent m')):m=m':=by
 refine List.ext_getElem (h.1.trans h'.1.symm) fun i h1 h2=>?_;have hl1:=h.2 _ (List.getElem_mem h1);have hl2:=h'.2 _ (List.getElem_mem h2);refine List.ext_getElem (hl1.trans hl2.symm) fun j h3 h4=>?_;have:=he i (by rw[<-h.1];exact h1) j (by omega);simpa[ent,List.getD_eq_getElem?_getD,h1,h2,h3,h4]using this
theorem Shp.set {n c:Nat} {m:Mat} (h:Shp n c m) (i:Nat) {r:List Rat} (hr:r.length=c):Shp n c (m.set i r):=by
 refine⟨by simp[h.1],fun x hx=>?_⟩;rcases List.mem_or_eq_of_mem_set hx with a|a
 ·exact h.2 _ a
 ·rw[a];exact hr
theorem a6d {m:Mat} {i:Nat} {r:List Rat} (hi:i<m.length) (k j:Nat):ent (m.set i r) k j=if k=i then r.getD j 0 else ent m k j:=by
 unfold ent;simp only[List.getD_eq_getElem?_getD,List.getElem?_set];by_cases e:k=i
 ·subst e;simp[hi]
 ·simp[e,Ne.symm e]
def rows (m:Mat) (f:Nat->List Rat->List Rat):Mat:=m.mapIdx f
theorem Shp.rows {n c:Nat} {m:Mat} (h:Shp n c m) {f:Nat->List Rat->List Rat} (hf:∀i,i<n->∀r:List Rat,r.length=c->(f i r).length=c):Shp n c (rows m f):=by
 refine⟨by simp[Lin.rows,h.1],fun x hx=>?_⟩;obtain⟨i,hi,rfl⟩:=List.getElem_of_mem hx;simp only[Lin.rows,List.length_mapIdx,List.getElem_mapIdx]at hi |-;exact hf i (by rw[<-h.1];exact hi) _ (h.2 _ (List.getElem_mem _))
theorem a6e {m:Mat} {f:Nat->List Rat->List Rat} {i:Nat} (hi:i<m.length) (j:Nat):ent (rows m f) i j=(f i (m.getD i [])).getD j 0:=by
 simp[ent,rows,List.getD_eq_getElem?_getD,hi]
def a1f (m:Mat) (i k:Nat):Mat:=(m.set i (m.getD k [])).set k (m.getD i [])
theorem Shp.swap {n c:Nat} {m:Mat} (h:Shp n c m) {i k:Nat} (hi:i<n) (hk:k<n):Shp n c (a1f m i k):=(h.set i (h.row hk)).set k (h.row hi)
theorem a3A {n c:Nat} {m:Mat} (h:Shp n c m) {i k:Nat} (hi:i<n) (hk:k<n) (r j:Nat):ent (a1f m i k) r j=if r=k then ent m i j else if r=i then ent m k j else ent m r j:=by
 unfold a1f;rw[a6d (by simp[h.1,hk]),a6d (by simp[h.1,hi])];rfl
theorem a5F (m:Mat) (i:Nat) (hi:i<m.length):a1f m i i=m:=by
 unfold a1f;simp[List.getD_eq_getElem?_getD,hi]
theorem a9Y {n c:Nat} {m:Mat} (h:Shp n c m) {i k:Nat} (hi:i<n) (hk:k<n) (hik:i≠k):RE n c (ent m) (ent (a1f m i k)) (-1):=
 .swap i k hi hk hik (fun j _=>by rw[a3A h hi hk];simp[hik]) (fun j _=>by rw[a3A h hi hk];simp) (fun r _ a b j _=>by rw[a3A h hi hk];simp[a,b])
def a2G (row piv:List Rat) (col:Nat):List Rat:=List.zipWith (fun a x=>a - (row.getD col 0/piv.getD col 0)*x) row piv
theorem a3o (row piv:List Rat) (col:Nat) (h:row.length=piv.length):(a2G row piv col).length=piv.length:=by simp[a2G,h]
theorem a6G (row piv:List Rat) (col j:Nat) (h:row.length=piv.length):(a2G row piv col).getD j 0=row.getD j 0 - (row.getD col 0/piv.getD col 0)*piv.getD j 0:=by
 unfold a2G;simp only[List.getD_eq_getElem?_getD,List.getElem?_zipWith];by_cases hj:j<row.length
 ·simp[hj,show j<piv.length by omega]
 ·simp[show¬j<row.length by omega,show¬j<piv.length by omega];grind
theorem a8W (row piv:List Rat) (col:Nat) (h:row.length=piv.length) (h0:row.getD col 0/piv.getD col 0=0):a2G row piv col=row:=by
 refine List.ext_getElem (by simp[a2G,h]) fun i h1 h2=>?_;simp only[a2G,List.getElem_zipWith,h0];grind
abbrev St:=Mat×List Nat×Bool
def clear (m:Mat) (t col:Nat) (s:Nat):Mat:=rows m fun i r=>if t<i/\i<t+1+s then a2G r (m.getD t []) col else r
noncomputable def b3r (m:Mat) (t col:Nat):Option Nat:=(m.drop t).findIdx? fun r=>decide (r.getD col 0≠0)
noncomputable def a5g (s:St) (col:Nat):St:=
 if s.2.1.length=s.1.length then s else
 match b3r s.1 s.2.1.length col with
 |none=>s
 |some k=>(clear (a1f s.1 s.2.1.length (s.2.1.length+k)) s.2.1.length col s.1.length,s.2.1++[col],s.2.2 !=decide (k≠0))
noncomputable def eN (m:Mat):Nat->St
 |0=>(m,[],false)
 |k+1=>a5g (eN m k) k
theorem Shp.clear {n c:Nat} {m:Mat} (h:Shp n c m) {t:Nat} (ht:t<n) (col s:Nat):Shp n c (clear m t col s):=
 h.rows fun i hi r hr=>by
  split
  ·rw[a3o _ _ _ (by rw[hr,h.row ht]),h.row ht]
  ·exact hr
theorem a4d {n c:Nat} {m:Mat} (h:Shp n c m) {t:Nat} (ht:t<n) (col s i j:Nat):ent (clear m t col s) i j=if t<i/\i<t+1+s/\i<n then ent m i j - (ent m i col/ent m t col)*ent m t j else ent m i j:=by
 by_cases hi:i<n
 ·unfold Lin.clear
  rw[a6e (by rw[h.1];exact hi)];by_cases a:t<i/\i<t+1+s
  ·simp only[a,and_self,if_true,hi]
   rw[a6G _ _ _ _ (by rw[h.row hi,h.row ht])];rfl
  ·rw[if_neg a,if_neg (fun b=>a ⟨b.1,b.2.1⟩)];rfl
 ·rw[a1s (h.clear ht col s) (.inl (by omega)),if_neg (by omega),a1s h (.inl (by omega))]
theorem b1q {n c:Nat} {m:Mat} (h:Shp n c m) {t:Nat} (ht:t<n) (col s:Nat):RE n c (ent m) (ent (clear m t col s)) 1:=
 .addmany t ht (fun i=>if t<i/\i<t+1+s/\i<n then - (ent m i col/ent m t col)else 0)
  (fun i hi e j hj=>by rw[a4d h ht];split<;>grind) (fun j hj=>by rw[a4d h ht];simp)
theorem a6H {m:Mat} {t col:Nat} (h:b3r m t col=none) (i:Nat) (hi:t<=i):ent m i col=0:=by
 unfold b3r at h;rw[List.findIdx?_eq_none_iff]at h;by_cases a:i<m.length
 ·have:=h (m[i]) (by rw[List.mem_drop_iff_getElem];exact⟨i - t,by omega,by congr 1;omega⟩)
  unfold ent;simp only[List.getD_eq_getElem?_getD,a,getElem?_pos,Option.getD_some]at this |-;simpa using this
 ·unfold ent;rw[List.getD_eq_getElem?_getD (l:=m),List.getElem?_eq_none (by omega)];simp
theorem a3p {m:Mat} {t col k:Nat} (h:b3r m t col=some k):t+k<m.length/\ent m (t+k) col≠0:=by
 unfold b3r at h;rw[List.findIdx?_eq_some_iff_getElem]at h;obtain⟨h1,h2,_⟩:=h;simp at h1;refine⟨by omega,?_⟩;unfold ent;simp only[List.getElem_drop]at h2;have a:t+k<m.length:=by omega
 simp only[List.getD_eq_getElem?_getD,a,getElem?_pos,Option.getD_some]at h2 |-;simpa using h2
structure EOk (n c k:Nat) (m:Mat) (s:St):Prop where
 shp:Shp n c s.1
 ech:Ech n k (ent s.1) s.2.1
 re:RE n c (ent m) (ent s.1) (if s.2.2 then -1 else 1)
theorem EOk.zero {n c:Nat} {m:Mat} (h:Shp n c m):EOk n c 0 m (m,[],false):=⟨h,Ech.nil _ _, .same fun _ _ _ _=>rfl⟩
theorem EOk.step {n c k:Nat} {m:Mat} {s:St} (h:EOk n c k m s):EOk n c (k+1) m (a5g s k):=by
 obtain⟨M,p,odd⟩:=s;have hs:Shp n c M:=h.shp;have he:Ech n k (ent M) p:=h.ech;have hr:RE n c (ent m) (ent M) (if odd then -1 else 1):=h.re;have hl:=hs.1;unfold a5g
 dsimp only
 split
 ·rename_i e
  exact⟨hs,he.skip fun i hi hn=>by omega,hr⟩
 ·rename_i e
  split
  ·rename_i hz
   exact⟨hs,he.skip fun i hi _=>a6H hz i hi,hr⟩
  ·rename_i q hz
   obtain⟨h1,h2⟩:=a3p hz;have hp:p.length<n:=by have:=he.le;omega
   have hpq:p.length+q<n:=by omega
   have hs2:=hs.swap hp hpq;have hes:=fun i j=>a3A hs hp hpq i j;have hec:=fun i j=>a4d hs2 hp k M.length i j;have hpiv:ent (a1f M p.length (p.length+q)) p.length k≠0:=by
    rw[hes];by_cases b:q=0
    ·subst b;simpa using h2
    ·simp[b];exact h2
   refine⟨hs2.clear hp _ _,he.push hp (fun i hi j=>?_) (fun i hi hn j hj=>?_) ?_ (fun i hi hn=>?_),?_⟩
   ·rw[hec,if_neg (by omega),hes,if_neg (by omega),if_neg (by omega)]
   ·have hz:∀i,p.length<=i->i<n->ent (a1f M p.length (p.length+q)) i j=0:=fun i hi hn=>by
     rw[hes];split
     ·exact he.below _ (by omega) hp j hj
     ·split
      ·exact he.below _ (by omega) hpq j hj
      ·exact he.below _ hi hn j hj
    rw[hec];split
    ·rw[hz i hi hn,hz p.length (Nat.le_refl _) hp];grind
    ·exact hz i hi hn
   ·rw[hec,if_neg (by omega)];exact hpiv
   ·rw[hec,if_pos ⟨hi,by omega,hn⟩];grind
   ·have hc:=b1q hs2 hp k M.length
    by_cases b:q=0
    ·subst b
     rw[Nat.add_zero,a5F M _ (by omega)]at hc |-;exact hr.then_ hc (by cases odd<;>simp)
    ·exact hr.then_ ((a9Y hs hp hpq (by omega)).then_ hc rfl) (by cases odd<;>simp[b];grind)
theorem a4K {n c:Nat} {m:Mat} (h:Shp n c m) (k:Nat):EOk n c k m (eN m k):=by
 induction k with
 |zero=>exact EOk.zero h
 |succ k ih=>exact ih.step
theorem b3s (m:Mat) (k:Nat) (h:(eN m k).2.1.length=(eN m k).1.length) (k':Nat) (hk:k<=k'):eN m k'=eN m k:=by
 induction k' with
 |zero=>
      have:k=0:=by omega
      subst this;rfl
 |succ k' ih=>
  by_cases e:k=k'+1
  ·subst e;rfl
  ·have:=ih (by omega)
   show a5g (eN m k') k'=_
   rw[this];unfold a5g;rw[if_pos h]
def divL (m:Mat) (i col:Nat):Mat:=m.set i ((m.getD i []).map (· /ent m i col))
def above (m:Mat) (i col s:Nat):Mat:=rows m fun k r=>if k<i/\k<s then a2G r (m.getD i []) col else r
def dStep (m:Mat) (i col:Nat):Mat:=above (divL m i col) i col i
theorem a6I (r:List Rat) (a:Rat) (j:Nat):(r.map (· /a)).getD j 0=r.getD j 0/a:=by
 simp only[List.getD_eq_getElem?_getD,List.getElem?_map];cases r[j]? with
 |none=>simp;grind
 |some x=>simp
theorem Shp.divL {n c:Nat} {m:Mat} (h:Shp n c m) {i:Nat} (hi:i<n) (col:Nat):Shp n c (divL m i col):=h.set i (by rw[List.length_map];exact h.row hi)
theorem a2V {n c:Nat} {m:Mat} (h:Shp n c m) {i:Nat} (hi:i<n) (col k j:Nat):ent (divL m i col) k j=if k=i then ent m i j/ent m i col else ent m k j:=by
 unfold divL;rw[a6d (by rw[h.1];exact hi),a6I];rfl
theorem Shp.above {n c:Nat} {m:Mat} (h:Shp n c m) {t:Nat} (ht:t<n) (col s:Nat):Shp n c (above m t col s):=
 h.rows fun i hi r hr=>by
  split
  ·rw[a3o _ _ _ (by rw[hr,h.row ht]),h.row ht]
  ·exact hr
theorem a4e {n c:Nat} {m:Mat} (h:Shp n c m) {t:Nat} (ht:t<n) (col s i j:Nat):ent (above m t col s) i j=if i<t/\i<s then ent m i j - (ent m i col/ent m t col)*ent m t j else ent m i j:=by
 by_cases hi:i<n
 ·unfold Lin.above
  rw[a6e (by rw[h.1];exact hi)];by_cases a:i<t/\i<s
  ·simp only[a,and_self,if_true]
   rw[a6G _ _ _ _ (by rw[h.row hi,h.row ht])];rfl
  ·rw[if_neg a,if_neg a];rfl
 ·rw[a1s (h.above ht col s) (.inl (by omega)),if_neg (by omega),a1s h (.inl (by omega))]
theorem b1r {n c:Nat} {m:Mat} (h:Shp n c m) {t:Nat} (ht:t<n) (col s:Nat):RE n c (ent m) (ent (above m t col s)) 1:=
 .addmany t ht (fun i=>if i<t/\i<s then - (ent m i col/ent m t col)else 0)
  (fun i hi e j hj=>by rw[a4e h ht];split<;>grind) (fun j hj=>by rw[a4e h ht];simp)
theorem b3t {n c:Nat} {m:Mat} (h:Shp n c m) {i:Nat} (hi:i<n) (col:Nat) (hne:ent m i col≠0):RE n c (ent m) (ent (divL m i col)) (1/ent m i col):=
 .scale i _ hi (by intro e;grind) (fun j _=>by rw[a2V h hi];simp;grind) (fun r _ hr j _=>by rw[a2V h hi,if_neg hr])
noncomputable def dN (m:Mat) (p:List Nat):Nat->Mat
 |0=>m
 |t+1=>dStep (dN m p t) t (p.getD t 0)
structure DOk (n c t:Nat) (m:Mat) (p:List Nat) (s:Mat):Prop where
 shp:Shp n c s
 ech:Ech n c (ent s) p
 red:Red n t (ent s) p
 re:∃d,RE n c (ent m) (ent s) d
theorem DOk.step {n c t:Nat} {m:Mat} {p:List Nat} {s:Mat} (h:DOk n c t m p s) (ht:t<p.length):DOk n c (t+1) m p (dStep s t (p.getD t 0)):=by
 have htn:t<n:=Nat.lt_of_lt_of_le ht h.ech.le;have hp:p.getD t 0=p[t]:=by simp[List.getD_eq_getElem?_getD,ht]
 rw[hp];have hd:=h.shp.divL htn p[t];have hpv:=h.ech.piv t ht;have e1:=fun k j=>a2V h.shp htn p[t] k j;have e2:=fun i j=>a4e hd htn p[t] t i j;obtain⟨d,hre⟩:=h.re;have hone:ent (divL s t p[t]) t p[t]=1:=by rw[e1];simp;grind
 have hrow:∀j,ent (dStep s t p[t]) t j=ent s t j/ent s t p[t]:=fun j=>by
  unfold dStep;rw[e2,if_neg (by omega),e1];simp
 have:=Red.step (g:=ent (dStep s t p[t])) h.ech h.red ht hrow (fun i hi j=>by
   rw[hrow];unfold dStep;rw[e2,if_pos ⟨hi,hi⟩,hone,e1,e1,e1,if_neg (by omega),if_neg (by omega),if_pos rfl];grind) (fun i hi j=>by
   unfold dStep;rw[e2,if_neg (by omega),e1,if_neg (by omega)])
 exact⟨hd.above htn _ _,this.1,this.2,_,hre.trans ((b3t h.shp htn _ hpv).trans (b1r hd htn _ _))⟩
theorem b3u {n c:Nat} {m:Mat} {p:List Nat} (h:Shp n c m) (he:Ech n c (ent m) p) (t:Nat) (ht:t<=p.length):DOk n c t m p (dN m p t):=by
 induction t with
 |zero=>exact⟨h,he,⟨by intros;omega,by intros;omega⟩,1, .same fun _ _ _ _=>rfl⟩
 |succ t ih=>exact(ih (by omega)).step (by omega)
noncomputable def a1i (m:Mat) (c:Nat):Mat×List Nat:=(dN (eN m c).1 (eN m c).2.1 (eN m c).2.1.length,(eN m c).2.1)
theorem a0X {n c:Nat} {m:Mat} (h:Shp n c m):Shp n c (a1i m c).1/\Rref n c (ent (a1i m c).1) (a1i m c).2/\∃d,RE n c (ent m) (ent (a1i m c).1) d:=by
 have h1:=a4K h c;have h2:=b3u h1.shp h1.ech _ (Nat.le_refl _);obtain⟨d,h3⟩:=h2.re;exact⟨h2.shp,h2.ech.rref h2.red,_,h1.re.trans h3⟩
abbrev Sr:=Mat×List Nat×Rat
def pv (m:Mat) (t col:Nat):Mat:=m.set t ((m.getD t []).map (· *(1/ent m t col)))
def out (m:Mat) (t col:Nat) (s:Nat):Mat:=rows m fun i r=>if i≠t/\i<s then List.zipWith (· + ·) r ((m.getD t []).map (· * - r.getD col 0))else r
noncomputable def a6J (s:Sr) (col:Nat):Sr:=
 match b3r s.1 s.2.1.length col with
 |none=>s
 |some k=>(out (pv (a1f s.1 (s.2.1.length+k) s.2.1.length) s.2.1.length col) s.2.1.length col s.1.length,s.2.1++[col],(if k=0 then s.2.2 else - s.2.2)*ent (a1f s.1 (s.2.1.length+k) s.2.1.length) s.2.1.length col)
noncomputable def rN (m:Mat):Nat->Sr
 |0=>(m,[],1)
 |k+1=>a6J (rN m k) k
theorem a4H (r:List Rat) (a:Rat) (j:Nat):(r.map (· *a)).getD j 0=r.getD j 0*a:=by
 simp only[List.getD_eq_getElem?_getD,List.getElem?_map];cases r[j]? with
 |none=>simp
 |some x=>simp
theorem b3v (a b:List Rat) (h:a.length=b.length) (j:Nat):(List.zipWith (· + ·) a b).getD j 0=a.getD j 0+b.getD j 0:=by
 simp only[List.getD_eq_getElem?_getD,List.getElem?_zipWith];by_cases hj:j<a.length
 ·simp[hj,show j<b.length by omega]
 ·simp[show¬j<a.length by omega,show¬j<b.length by omega];grind
theorem Shp.pv {n c:Nat} {m:Mat} (h:Shp n c m) {i:Nat} (hi:i<n) (col:Nat):Shp n c (pv m i col):=h.set i (by rw[List.length_map];exact h.row hi)
theorem a9Z {n c:Nat} {m:Mat} (h:Shp n c m) {i:Nat} (hi:i<n) (col k j:Nat):ent (pv m i col) k j=if k=i then ent m i j*(1/ent m i col)else ent m k j:=by
 unfold pv;rw[a6d (by rw[h.1];exact hi),a4H];rfl
theorem Shp.out {n c:Nat} {m:Mat} (h:Shp n c m) {t:Nat} (ht:t<n) (col s:Nat):Shp n c (out m t col s):=
 h.rows fun i hi r hr=>by
  split
  ·rw[List.length_zipWith,List.length_map,hr,h.row ht];omega
  ·exact hr
theorem a8i {n c:Nat} {m:Mat} (h:Shp n c m) {t:Nat} (ht:t<n) (col s i j:Nat):ent (out m t col s) i j=if i≠t/\i<s/\i<n then ent m i j+ent m t j* - ent m i col else ent m i j:=by
 by_cases hi:i<n
 ·unfold Lin.out
  rw[a6e (by rw[h.1];exact hi)];by_cases a:i≠t/\i<s
  ·rw[if_pos a,if_pos ⟨a.1,a.2,hi⟩,b3v _ _ (by rw[List.length_map,h.row hi,h.row ht]),a4H];rfl
  ·rw[if_neg a,if_neg (fun b=>a ⟨b.1,b.2.1⟩)];rfl
 ·rw[a1s (h.out ht col s) (.inl (by omega)),if_neg (by omega),a1s h (.inl (by omega))]
structure ROk (n c k:Nat) (m:Mat) (s:Sr):Prop where
 shp:Shp n c s.1
 ref:Rref n k (ent s.1) s.2.1
 re:∃d,RE n c (ent m) (ent s.1) d/\s.2.2*d=1
theorem ROk.step {n c k:Nat} {m:Mat} {s:Sr} (h:ROk n c k m s):ROk n c (k+1) m (a6J s k):=by
 obtain⟨M,p,fac⟩:=s;have hs:Shp n c M:=h.shp;have he:Rref n k (ent M) p:=h.ref;obtain⟨d,hr,hd⟩:∃d,RE n c (ent m) (ent M) d/\fac*d=1:=h.re;have hl:=hs.1;unfold a6J
 dsimp only
 split
 ·rename_i hz
  exact⟨hs,he.skip fun i hi _=>a6H hz i hi,d,hr,hd⟩
 ·rename_i q hz
  obtain⟨h1,h2⟩:=a3p hz;have hp:p.length<n:=by omega
  have hpq:p.length+q<n:=by omega
  have hs2:=hs.swap hpq hp;have hes:=fun i j=>a3A hs hpq hp i j;have hs3:=hs2.pv hp k;have hep:=fun i j=>a9Z hs2 hp k i j;have heo:=fun i j=>a8i hs3 hp k M.length i j;have hpiv:ent (a1f M (p.length+q) p.length) p.length k≠0:=by rw[hes,if_pos rfl];exact h2
  have hsw:Rref n k (ent (a1f M (p.length+q) p.length)) p:=by
   have hsm:∀i,i<p.length->∀j,ent (a1f M (p.length+q) p.length) i j=ent M i j:=fun i hi j=>by
    rw[hes,if_neg (by omega),if_neg (by omega)]
   have hz0:∀i,p.length<=i->i<n->∀j,j<k->ent (a1f M (p.length+q) p.length) i j=0:=fun i hi hn j hj=>by
    rw[hes];split
    ·exact he.below _ (by omega) hpq j hj
    ·split
     ·exact he.below _ (by omega) hp j hj
     ·exact he.below _ hi hn j hj
   refine⟨he.le,he.lt,he.inc,fun i hi j hj=>by rw[hsm i hi];exact he.left i hi j hj,fun i hi=>by rw[hsm i hi];exact he.one i hi,fun t ht i hi hit=>?_,hz0⟩;by_cases a:i<p.length
   ·rw[hsm i a];exact he.zero t ht i hi hit
   ·exact hz0 i (by omega) hi _ (he.lt t ht)
  have hrow:∀j,ent (out (pv (a1f M (p.length+q) p.length) p.length k) p.length k M.length) p.length j=ent (a1f M (p.length+q) p.length) p.length j*(1/ent (a1f M (p.length+q) p.length) p.length k):=fun j=>by
   rw[heo,if_neg (by omega),hep,if_pos rfl]
  refine⟨hs3.out hp _ _,hsw.push hp hpiv hrow (fun i hi hne j=>?_),?_⟩
  ·rw[hrow,heo,if_pos ⟨hne,by omega,hi⟩,hep,hep,hep,if_neg hne,if_neg hne,if_pos rfl]
  ·have hre3:RE n c (ent (a1f M (p.length+q) p.length)) (ent (pv (a1f M (p.length+q) p.length) p.length k)) (1/ent (a1f M (p.length+q) p.length) p.length k):=
    .scale p.length _ hp (by intro e;grind) (fun j _=>by rw[hep];simp;grind) (fun r _ hr j _=>by rw[hep,if_neg hr])
   have hre4:RE n c (ent (pv (a1f M (p.length+q) p.length) p.length k)) (ent (out (pv (a1f M (p.length+q) p.length) p.length k) p.length k M.length)) 1:=
    .addmany p.length hp (fun i=>if i≠p.length/\i<M.length/\i<n then - ent (pv (a1f M (p.length+q) p.length) p.length k) i k else 0)
     (fun i hi e j hj=>by rw[heo];split<;>grind) (fun j hj=>by rw[heo];simp)
   by_cases b:q=0
   ·subst b
    rw[Nat.add_zero,a5F M _ (by omega)]at hre3 hre4 hpiv |-;exact⟨_,hr.trans (hre3.trans hre4),by simp;grind⟩
   ·exact⟨_,hr.trans ((a9Y hs hpq hp (by omega)).trans (hre3.trans hre4)),by simp[b];grind⟩
theorem b0a {n c:Nat} {m:Mat} (h:Shp n c m) (k:Nat):ROk n c k m (rN m k):=by
 induction k with
 |zero=>exact⟨h,Rref.nil _ _,1, .same fun _ _ _ _=>rfl,by show(1:Rat)*1=1;grind⟩
 |succ k ih=>exact ih.step
theorem b2B {n c:Nat} {m:Mat} (h:Shp n c m):(a1i m c).1=(rN m c).1/\(a1i m c).2=(rN m c).2.1:=by
 obtain⟨h1,h2,d,h3⟩:=a0X h;have h4:=b0a h c;obtain⟨e,h5,_⟩:=h4.re;have:=h2.unique h4.ref fun x=>((h3.nul x).symm.trans (h5.nul x));exact⟨h1.ext h4.shp this.2,this.1⟩
end Go.Lin
