/- The reference's integers: Add. Conditions: at most 2^39 digits. integer.Mul, Neg, Sign, FromInt. Conditions: at most 2^39 digits. The reference's integers: Mul, Neg, Sign, FromInt. Conditions: at most 2^39 digits. The reference's integers: Neg, Sign, FromInt, Same, Gcd. Conditions: at most 2^39 digits. The reference's integers: Div, where it leaves no remainder. Conditions: at most 2^38 digits. integer.FromInt, Compare. Conditions: at most 2^39 digits. rational: readings; one, Valid, value, den. Conditions: at most 2^36 digits. Rows of rational numbers, and matrices, in slices: their elements, loads, types. Conditions: none. A step of a drawn region: append of one element to an owned list. Conditions: none. rational.Valid, value. Conditions: at most 2^36 digits. rational.times, lowest, FromInt. Conditions: at most 2^38 digits. -/
import Derived.Test.YtidbbddagfnfbaaGreatSfC
import Derived.Deep.RegionHeld3
namespace Go.Proofs.YtidbbddagfnfbaaGreat
open Go.RowKit Go.Rep Go.Lim
set_option maxRecDepth 100000 in
set_option maxHeartbeats 800000 in
theorem b9V (X:Nat->Bool) (w:World) (u v:Value) (x y:Int) (hX:HX X w) (hu:ZV (mk X w) u x) (hv:ZV (mk X w) v y):Calls Tryz.prog 135 #[u,v] w (a1Z X w ZC (x+y)):=by
 have hlx:=hid hu.lg;have hly:=hid hv.lg;obtain⟨s1,a1,c1,l1,rfl,hu'⟩:=id hu;obtain⟨s2,a2,c2,l2,rfl,hv'⟩:=id hv;obtain⟨W,hW,hE,b0,b1,b2,hz⟩:=a2x w #[.bool s1, .slice a1 l1.length c1] #[.bool s2, .slice a2 l2.length c2] #[.bool false, .slice none 0 0] 43 43 43;have hXW:HX (a0f X w.heap.size 3) W:=hX.boxes hz;have hu1:=ZV.mono _ _ _ _ (a0o (nb:=3) hE) hu;have hv1:=ZV.mono _ _ _ _ (a0o (nb:=3) hE) hv;obtain⟨b,hb⟩:∃b,w.heap.size=b:=⟨_,rfl⟩;have hbw:w.heap.size<=b:=by omega
 rw[hb]at b0 b1 b2 hz hXW hu1 hv1;have hEd:Ext W W.drew:=(ExtX.refl W).drew;have hXd:HX (a0f X b 3) W.drew:=hXW;have hud:ZV (mk (a0f X b 3) W.drew) (.agg #[.bool s1, .slice a1 l1.length c1]) x:=hu1;have hvd:ZV (mk (a0f X b 3) W.drew) (.agg #[.bool s2, .slice a2 l2.length c2]) y:=hv1;have k00:=b0.cell 0 rfl;have k01:=b0.cell 1 rfl;have k10:=b1.cell 0 rfl;have k11:=b1.cell 1 rfl;clear hu hv hu' hv';go_enter Tryz.func135,Tryz.ntmps135
 go_upto_region 1 with(fail)
 go_cut []from 9 to 12 (fun wx=>∃s3 a3 c3 l3 s4 a4 c4 l4,Bx wx b #[.bool s3, .slice a3 l3 c3] 43/\Bx wx (b+1) #[.bool s4, .slice a4 l4 c4] 43/\Bx wx (b+1+1) #[.bool false, .slice none 0 0] 43/\ZC (mk (a0f X b 3) wx) (.agg #[.bool s3, .slice a3 l3 c3]) x/\ZC (mk (a0f X b 3) wx) (.agg #[.bool s4, .slice a4 l4 c4]) y/\Ext w wx)
 case first=>
  go_region_with (first|(go_at_call 187;(with_reducible refine(a3G (a0f X b 3) W.drew _ x hXd hud).mono ?_);rintro e w5 ⟨hE5,u5,rfl,s5,a5,c5,l5,rfl,h51,h52,h53⟩;have bb0:=b0.ext0 (hEd.trans hE5);have bb1:=b1.ext0 (hEd.trans hE5);have e00:=bb0.cell 0 rfl;have e01:=bb0.cell 1 rfl;have e10:=bb1.cell 0 rfl;have e11:=bb1.cell 1 rfl)|(go_at_call 187;(with_reducible refine(a3G (a0f X b 3) w5 _ y (HX.ext hXd hE5) (mkx ZV.mono hvd hE5)).mono ?_);rintro e w6 ⟨hE6,u6,rfl,s6,a6,c6,l6,rfl,h61,h62,h63⟩;have bb2:=bb0.ext0 hE6;have bb3:=bb1.ext0 hE6;have g00:=bb2.cell 0 rfl;have g01:=bb2.cell 1 rfl;have g10:=bb3.cell 0 rfl;have g11:=bb3.cell 1 rfl;have fr0:=bb2.frozen 0;have fr1:=bb2.frozen 1;have fr2:=bb3.frozen 0;have fr3:=bb3.frozen 1))
  all_goals
   obtain⟨wf,hwf,q0,q1,q2,q3,q4⟩:=a2i (X:=X) (nb:=3) bb2 bb3 (hE.trans ((hEd.trans hE5).trans hE6)) hbw (by omega) (.bool s5) (.slice a5 l5.length c5) (.bool s6) (.slice a6 l6.length c6);rw[hwf];have hfx:ZC (mk (a0f X b 3) wf) (.agg #[.bool s5, .slice a5 l5.length c5]) x:=⟨s5,a5,c5,l5,rfl,h51,h52,(h53.mono (a0d.mono _) (a0p hE6)).mono (a0d.mono _) q4⟩;have hfy:ZC (mk (a0f X b 3) wf) (.agg #[.bool s6, .slice a6 l6.length c6]) y:=⟨s6,a6,c6,l6,rfl,h61,h62,h63.mono (a0d.mono _) q4⟩;have q5:=q2 (b+1+1) _ _ (by omega) (by omega) ((b2.ext0 (hEd.trans hE5)).ext0 hE6);clear e00 e01 e10 e11 g00 g01 g10 g11 fr0 fr1 fr2 fr3 k00 k01 k10 k11 hwf;go_wp2_with fail
   go_meet
   exact⟨_,_,_,_,_,_,_,_,q0,q1,q5,hfx,hfy,q3⟩
 case rest=>
  clear k00 k01 k10 k11 b0 b1 b2 hu1 hv1 hud hvd hXd hEd hW;obtain⟨s3,a3,c3,n3,s4,a4,c4,n4,b0,b1,b2,hx,hy,hE1⟩:=hcut;obtain⟨_,_,_,l3,heq,h31,h32,h33⟩:=hx;simp only[Value.agg.injEq,Array.mk.injEq,List.cons.injEq,Value.bool.injEq,Value.slice.injEq,and_true]at heq;obtain⟨rfl,rfl,rfl,rfl⟩:=heq;obtain⟨_,_,_,l4,heq,h41,h42,h43⟩:=hy;simp only[Value.agg.injEq,Array.mk.injEq,List.cons.injEq,Value.bool.injEq,Value.slice.injEq,and_true]at heq;obtain⟨rfl,rfl,rfl,rfl⟩:=heq;have hnx:NV (mk (a0f X b 3) wc) (.slice a3 l3.length c3) x.natAbs:=NC.nv ⟨a3,c3,l3,rfl,h31,h32.2,h33⟩ (by have:=hlx.out;omega);have hny:NV (mk (a0f X b 3) wc) (.slice a4 l4.length c4) y.natAbs:=NC.nv ⟨a4,c4,l4,rfl,h41,h42.2,h43⟩ (by have:=hly.out;omega);have hsx:=hid h32.1;have hsy:=hid h42.1;have hzz:w.heap.size+3<=wc.heap.size:=by have:=b2.lt;omega
  have hXc:HX (a0f X b 3) wc:=hX.boxes' hE1 (by omega) hzz;have hB:=hid (And.intro b0 (And.intro b1 b2));have k00:=b0.cell 0 rfl;have k01:=b0.cell 1 rfl;have k10:=b1.cell 0 rfl;have k11:=b1.cell 1 rfl;have hlz:=hid (a3F h32);have hlw:=hid (a3F h42);have hEd:Ext wc wc.drew:=(ExtX.refl wc).drew;have hn1:b+1≠b+1+1:=by omega
  have hn2:b≠b+1+1:=by omega
  by_cases hss:s3=s4
  ·subst hss
   have hfin:Hid (sg s3 (x.natAbs+y.natAbs)=x+y):=hid (by
    have e1:=hlz.out;have e2:=hlw.out;unfold sg at*;cases s3<;>simp at*<;>omega)
   go_wp2_with fail
   go_region_held3 (fun w'=>w'.cell? ⟨b,0,none⟩=some (.bool s3)/\w'.cell? ⟨b,1,none⟩=some (.slice a3 l3.length c3)/\w'.cell? ⟨b+1,1,none⟩=some (.slice a4 l4.length c4))
    (first|exact⟨(hB.out.1.ext0 (hEd.trans hE5)).cell 0 rfl,(hB.out.1.ext0 (hEd.trans hE5)).cell 1 rfl,(hB.out.2.1.ext0 (hEd.trans hE5)).cell 1 rfl⟩|exact⟨(hB.out.1.ext0 (hEd.trans (hE5.trans hE6))).cell 0 rfl,(hB.out.1.ext0 (hEd.trans (hE5.trans hE6))).cell 1 rfl,(hB.out.2.1.ext0 (hEd.trans (hE5.trans hE6))).cell 1 rfl⟩|exact⟨((hB.out.1.ext0 (hEd.trans (hE5.trans hE6))).ext (bb2.set2 _ _).2 (a0b (by omega))).cell 0 rfl,((hB.out.1.ext0 (hEd.trans (hE5.trans hE6))).ext (bb2.set2 _ _).2 (a0b (by omega))).cell 1 rfl,((hB.out.2.1.ext0 (hEd.trans (hE5.trans hE6))).ext (bb2.set2 _ _).2 (a0b (by omega))).cell 1 rfl⟩|go_keep)
    (first|(go_at_call 185;refine(b3L (X:=a0f X b 3) (w:=wc.drew) hXc hnx hny).mono ?_;rintro e w5 ⟨hE5,u5,rfl,hu5⟩)|(go_at_call 184;refine(a1I (a0f X b 3) w5 s3 u5 (x.natAbs+y.natAbs) (HX.ext (w:=wc.drew) hXc hE5) hu5).mono ?_;rintro e w6 ⟨hE6,u6,rfl,s6,a6,c6,l6,rfl,h61,h62,h63⟩;have bb2:=hB.out.2.2.ext0 (hEd.trans (hE5.trans hE6));have g1:=bb2.cell 0 rfl;have g2:=bb2.cell 1 rfl;have g3:=bb2.frozen 0;have g4:=bb2.frozen 1))
   obtain⟨r1,r2⟩:=bb2.set2 (.bool s6) (.slice a6 l6.length c6);have h7:=(h63.mono (a0d.mono _) (a0i r2 (by omega) (by omega))).mono (a0d.mono _) a0l;rw[hfin.out]at h62;have hEf:Ext w _:=ExtX.box (hE1.trans (hEd.trans (hE5.trans hE6))) r2 (by omega);clear g1 g2 g3 g4 k00 k01 k10 k11;go_wp2_with fail
   exact bodyPost_ret (a0e rfl rfl a0H r1 rfl) rfl ⟨hEf,_,rfl,s6,a6,c6,l6,rfl,h61,h62,h7⟩
  ·have hne:(s3==s4)=false:=by simpa using hss
   have hfin1:Hid (y.natAbs<=x.natAbs->sg s3 (x.natAbs - y.natAbs)=x+y):=hid (fun h=>by
    have e1:=hlz.out;have e2:=hlw.out;unfold sg at*;cases s3<;>cases s4<;>simp at*<;>omega)
   have hfin2:Hid (¬y.natAbs<=x.natAbs->sg s4 (y.natAbs - x.natAbs)=x+y):=hid (fun h=>by
    have e1:=hlz.out;have e2:=hlw.out;unfold sg at*;cases s3<;>cases s4<;>simp at*<;>omega)
   clear hss;go_wp2_with fail
   refine(b6H _ _ _ _ _ _ hXc hnx hny).mono ?_;rintro e w5 ⟨hE5,u5,rfl,hu5⟩;have hX5:=hXc.ext hE5;have bb0:=hB.out.1.ext0 hE5;have bb1:=hB.out.2.1.ext0 hE5;have bb2:=hB.out.2.2.ext0 hE5;clear k00 k01 k10 k11;have k00:=bb0.cell 0 rfl;have k01:=bb0.cell 1 rfl;have k10:=bb1.cell 0 rfl;have k11:=bb1.cell 1 rfl;by_cases hle:y.natAbs<=x.natAbs
   ·have hd:decide (y.natAbs<=x.natAbs)=true:=decide_eq_true hle
    have hf:=hid (hfin1.out hle);rw[hd];clear hd hle;go_wp2_with fail
    refine(a1I (a0f X b 3) w5 s3 u5 _ hX5 hu5).mono ?_;rintro e w6 ⟨hE6,u6,rfl,s6,a6,c6,l6,rfl,h61,h62,h63⟩;have bb3:=bb2.ext0 hE6;clear k00 k01 k10 k11;go_wp2_with ((with_reducible show wpList _ _ _ (⟨_, .store _ _ _,_,_,_,_⟩::_) _ _);refine a0c a0H rfl rfl bb3 rfl rfl (a2K _ _ _ _) ?_;intro w7 r1 r2)
    have h7:=(h63.mono (a0d.mono _) (a0i r2 (by omega) (by omega))).mono (a0d.mono _) a0l;rw[hf.out]at h62;exact bodyPost_ret (a0e rfl rfl a0H r1 rfl) rfl ⟨ExtX.box (hE1.trans (hE5.trans hE6)) r2 (by omega),_,rfl,s6,a6,c6,l6,rfl,h61,h62,h7⟩
   ·have hd:decide (y.natAbs<=x.natAbs)=false:=decide_eq_false hle
    have hf:=hid (hfin2.out hle);rw[hd];clear hd hle;go_wp2_with fail
    refine(b6H _ _ _ _ _ _ hX5 (mkx NV.mono hny hE5) (mkx NV.mono hnx hE5)).mono ?_;rintro e w6 ⟨hE6,v5,rfl,hv5⟩;have bc0:=bb0.ext0 hE6;have bc1:=bb1.ext0 hE6;have bc2:=bb2.ext0 hE6;clear k00 k01 k10 k11;have k10:=bc1.cell 0 rfl;have k11:=bc1.cell 1 rfl;go_wp2_with fail
    refine(a1I (a0f X b 3) w6 s4 v5 _ (hX5.ext hE6) hv5).mono ?_;rintro e w7 ⟨hE7,u6,rfl,s6,a6,c6,l6,rfl,h61,h62,h63⟩;have bb3:=bc2.ext0 hE7;clear k10 k11;go_wp2_with ((with_reducible show wpList _ _ _ (⟨_, .store _ _ _,_,_,_,_⟩::_) _ _);refine a0c a0H rfl rfl bb3 rfl rfl (a2K _ _ _ _) ?_;intro w8 r1 r2)
    have h7:=(h63.mono (a0d.mono _) (a0i r2 (by omega) (by omega))).mono (a0d.mono _) a0l;rw[hf.out]at h62;exact bodyPost_ret (a0e rfl rfl a0H r1 rfl) rfl ⟨ExtX.box (hE1.trans (hE5.trans (hE6.trans hE7))) r2 (by omega),_,rfl,s6,a6,c6,l6,rfl,h61,h62,h7⟩
set_option maxRecDepth 100000 in
set_option maxHeartbeats 800000 in
theorem b9O (X:Nat->Bool) (w:World) (u v:Value) (x y:Int) (hX:HX X w) (hu:ZV (mk X w) u x) (hv:ZV (mk X w) v y):Calls Tryz.prog 209 #[u,v] w (a1Z X w ZC (x*y)):=by
 have hlx:=hid hu.lg;have hly:=hid hv.lg;obtain⟨s1,a1,c1,l1,rfl,hu'⟩:=id hu;obtain⟨s2,a2,c2,l2,rfl,hv'⟩:=id hv;obtain⟨W,hW,hE,b0,b1,b2,hz⟩:=a2x w #[.bool s1, .slice a1 l1.length c1] #[.bool s2, .slice a2 l2.length c2] #[.bool false, .slice none 0 0] 43 43 43;have hXW:HX (a0f X w.heap.size 3) W:=hX.boxes hz;have hu1:=ZV.mono _ _ _ _ (a0o (nb:=3) hE) hu;have hv1:=ZV.mono _ _ _ _ (a0o (nb:=3) hE) hv;obtain⟨b,hb⟩:∃b,w.heap.size=b:=⟨_,rfl⟩;have hbw:w.heap.size<=b:=by omega
 rw[hb]at b0 b1 b2 hz hXW hu1 hv1;have hEd:Ext W W.drew:=(ExtX.refl W).drew;have hXd:HX (a0f X b 3) W.drew:=hXW;have hud:ZV (mk (a0f X b 3) W.drew) (.agg #[.bool s1, .slice a1 l1.length c1]) x:=hu1;have hvd:ZV (mk (a0f X b 3) W.drew) (.agg #[.bool s2, .slice a2 l2.length c2]) y:=hv1;have k00:=b0.cell 0 rfl;have k01:=b0.cell 1 rfl;have k10:=b1.cell 0 rfl;have k11:=b1.cell 1 rfl;clear hu hv hu' hv';go_enter Tryz.func209,Tryz.ntmps209
 go_upto_region 1 with(fail)
 go_cut []from 5 to 8 (fun wx=>∃s3 a3 c3 l3 s4 a4 c4 l4,Bx wx b #[.bool s3, .slice a3 l3 c3] 43/\Bx wx (b+1) #[.bool s4, .slice a4 l4 c4] 43/\Bx wx (b+1+1) #[.bool false, .slice none 0 0] 43/\ZC (mk (a0f X b 3) wx) (.agg #[.bool s3, .slice a3 l3 c3]) x/\ZC (mk (a0f X b 3) wx) (.agg #[.bool s4, .slice a4 l4 c4]) y/\Ext w wx)
 case first=>
  go_region_with (first|(go_at_call 230;(with_reducible refine(a5x (a0f X b 3) W.drew _ x hXd hud).mono ?_);rintro e w5 ⟨hE5,u5,rfl,s5,a5,c5,l5,rfl,h51,h52,h53⟩;have bb0:=b0.ext0 (hEd.trans hE5);have bb1:=b1.ext0 (hEd.trans hE5);have e00:=bb0.cell 0 rfl;have e01:=bb0.cell 1 rfl;have e10:=bb1.cell 0 rfl;have e11:=bb1.cell 1 rfl)|(go_at_call 230;(with_reducible refine(a5x (a0f X b 3) w5 _ y (HX.ext hXd hE5) (mkx ZV.mono hvd hE5)).mono ?_);rintro e w6 ⟨hE6,u6,rfl,s6,a6,c6,l6,rfl,h61,h62,h63⟩;have bb2:=bb0.ext0 hE6;have bb3:=bb1.ext0 hE6;have g00:=bb2.cell 0 rfl;have g01:=bb2.cell 1 rfl;have g10:=bb3.cell 0 rfl;have g11:=bb3.cell 1 rfl;have fr0:=bb2.frozen 0;have fr1:=bb2.frozen 1;have fr2:=bb3.frozen 0;have fr3:=bb3.frozen 1))
  all_goals
   obtain⟨wf,hwf,q0,q1,q2,q3,q4⟩:=a2i (X:=X) (nb:=3) bb2 bb3 (hE.trans ((hEd.trans hE5).trans hE6)) hbw (by omega) (.bool s5) (.slice a5 l5.length c5) (.bool s6) (.slice a6 l6.length c6);rw[hwf];have hfx:ZC (mk (a0f X b 3) wf) (.agg #[.bool s5, .slice a5 l5.length c5]) x:=⟨s5,a5,c5,l5,rfl,h51,h52,(h53.mono (a0d.mono _) (a0p hE6)).mono (a0d.mono _) q4⟩;have hfy:ZC (mk (a0f X b 3) wf) (.agg #[.bool s6, .slice a6 l6.length c6]) y:=⟨s6,a6,c6,l6,rfl,h61,h62,h63.mono (a0d.mono _) q4⟩;have q5:=q2 (b+1+1) _ _ (by omega) (by omega) ((b2.ext0 (hEd.trans hE5)).ext0 hE6);clear e00 e01 e10 e11 g00 g01 g10 g11 fr0 fr1 fr2 fr3 k00 k01 k10 k11 hwf;go_wp2_with fail
   go_meet
   exact⟨_,_,_,_,_,_,_,_,q0,q1,q5,hfx,hfy,q3⟩
 case rest=>
  clear k00 k01 k10 k11 b0 b1 b2 hu1 hv1 hud hvd hXd hEd hW;obtain⟨s3,a3,c3,n3,s4,a4,c4,n4,b0,b1,b2,hx,hy,hE1⟩:=hcut;obtain⟨_,_,_,l3,heq,h31,h32,h33⟩:=hx;simp only[Value.agg.injEq,Array.mk.injEq,List.cons.injEq,Value.bool.injEq,Value.slice.injEq,and_true]at heq;obtain⟨rfl,rfl,rfl,rfl⟩:=heq;obtain⟨_,_,_,l4,heq,h41,h42,h43⟩:=hy;simp only[Value.agg.injEq,Array.mk.injEq,List.cons.injEq,Value.bool.injEq,Value.slice.injEq,and_true]at heq;obtain⟨rfl,rfl,rfl,rfl⟩:=heq;have hlz:=hid (a3F h32);have hlw:=hid (a3F h42);have hsx:=hid h32.1;have hsy:=hid h42.1;have hEd:Ext wc wc.drew:=(ExtX.refl wc).drew;have hnx:NV (mk (a0f X b 3) wc) (.slice a3 l3.length c3) x.natAbs:=NC.nv ⟨a3,c3,l3,rfl,h31,h32.2,h33⟩ (by have:=hlx.out;omega);have hny:NV (mk (a0f X b 3) wc) (.slice a4 l4.length c4) y.natAbs:=NC.nv ⟨a4,c4,l4,rfl,h41,h42.2,h43⟩ (by have:=hly.out;omega);have hzz:w.heap.size+3<=wc.heap.size:=by have:=b2.lt;omega
  have hXc:HX (a0f X b 3) wc:=hX.boxes' hE1 (by omega) hzz;have hB:=hid (And.intro b0 (And.intro b1 b2));have k00:=b0.cell 0 rfl;have k01:=b0.cell 1 rfl;have k10:=b1.cell 0 rfl;have k11:=b1.cell 1 rfl;have hn1:b+1≠b+1+1:=by omega
  have hn2:b≠b+1+1:=by omega
  obtain⟨sn,hsn⟩:∃sn,(s3 !=s4)=sn:=⟨_,rfl⟩;have hfin:Hid (sg sn (x.natAbs*y.natAbs)=x*y):=hid (by
   have e1:=hlz.out;have e2:=hlw.out;rw[<-hsn,<-e1,<-e2,a6S,a6S];unfold sg;cases s3<;>cases s4<;>simp[Int.natCast_mul,Int.neg_mul,Int.mul_neg])
  have hsn':=hid hsn;clear hsx hsy hlz hlw hsn h32 h42;cases s3<;>cases s4
  ·obtain rfl:sn=false:=hsn'.out.symm
   clear hsn';go_wp2_with fail
   go_region_held3 (fun w'=>w'.cell? ⟨b,0,none⟩=some (.bool false)/\w'.cell? ⟨b,1,none⟩=some (.slice a3 l3.length c3)/\w'.cell? ⟨b+1,0,none⟩=some (.bool false)/\w'.cell? ⟨b+1,1,none⟩=some (.slice a4 l4.length c4))
    (first|exact⟨(hB.out.1.ext0 (hEd.trans hE5)).cell 0 rfl,(hB.out.1.ext0 (hEd.trans hE5)).cell 1 rfl,(hB.out.2.1.ext0 (hEd.trans hE5)).cell 0 rfl,(hB.out.2.1.ext0 (hEd.trans hE5)).cell 1 rfl⟩|exact⟨(hB.out.1.ext0 (hEd.trans (hE5.trans hE6))).cell 0 rfl,(hB.out.1.ext0 (hEd.trans (hE5.trans hE6))).cell 1 rfl,(hB.out.2.1.ext0 (hEd.trans (hE5.trans hE6))).cell 0 rfl,(hB.out.2.1.ext0 (hEd.trans (hE5.trans hE6))).cell 1 rfl⟩|exact⟨((hB.out.1.ext0 (hEd.trans (hE5.trans hE6))).ext (bb2.set2 _ _).2 (a0b (by omega))).cell 0 rfl,((hB.out.1.ext0 (hEd.trans (hE5.trans hE6))).ext (bb2.set2 _ _).2 (a0b (by omega))).cell 1 rfl,((hB.out.2.1.ext0 (hEd.trans (hE5.trans hE6))).ext (bb2.set2 _ _).2 (a0b (by omega))).cell 0 rfl,((hB.out.2.1.ext0 (hEd.trans (hE5.trans hE6))).ext (bb2.set2 _ _).2 (a0b (by omega))).cell 1 rfl⟩|go_keep)
    (first|(go_at_call 179;refine(b5D (X:=a0f X b 3) (w:=wc.drew) hXc hnx hny).mono ?_;rintro e w5 ⟨hE5,u5,rfl,hu5⟩)|(go_at_call 240;refine(a2D (a0f X b 3) w5 false u5 (x.natAbs*y.natAbs) (HX.ext (w:=wc.drew) hXc hE5) hu5).mono ?_;rintro e w6 ⟨hE6,u6,rfl,s6,a6,c6,l6,rfl,h61,h62,h63⟩;have bb2:=hB.out.2.2.ext0 (hEd.trans (hE5.trans hE6));have g1:=bb2.cell 0 rfl;have g2:=bb2.cell 1 rfl;have g3:=bb2.frozen 0;have g4:=bb2.frozen 1))
   obtain⟨r1,r2⟩:=bb2.set2 (.bool s6) (.slice a6 l6.length c6);have h7:=(h63.mono (a0d.mono _) (a0i r2 (by omega) (by omega))).mono (a0d.mono _) a0l;rw[hfin.out]at h62;have hEf:Ext w _:=ExtX.box (hE1.trans (hEd.trans (hE5.trans hE6))) r2 (by omega);clear g1 g2 g3 g4 k00 k01 k10 k11;go_wp2_with fail
   exact bodyPost_ret (a0e rfl rfl a0H r1 rfl) rfl ⟨hEf,_,rfl,s6,a6,c6,l6,rfl,h61,h62,h7⟩
  ·obtain rfl:sn=true:=hsn'.out.symm
   clear hsn';go_wp2_with fail
   go_region_held3 (fun w'=>w'.cell? ⟨b,0,none⟩=some (.bool false)/\w'.cell? ⟨b,1,none⟩=some (.slice a3 l3.length c3)/\w'.cell? ⟨b+1,0,none⟩=some (.bool true)/\w'.cell? ⟨b+1,1,none⟩=some (.slice a4 l4.length c4))
    (first|exact⟨(hB.out.1.ext0 (hEd.trans hE5)).cell 0 rfl,(hB.out.1.ext0 (hEd.trans hE5)).cell 1 rfl,(hB.out.2.1.ext0 (hEd.trans hE5)).cell 0 rfl,(hB.out.2.1.ext0 (hEd.trans hE5)).cell 1 rfl⟩|exact⟨(hB.out.1.ext0 (hEd.trans (hE5.trans hE6))).cell 0 rfl,(hB.out.1.ext0 (hEd.trans (hE5.trans hE6))).cell 1 rfl,(hB.out.2.1.ext0 (hEd.trans (hE5.trans hE6))).cell 0 rfl,(hB.out.2.1.ext0 (hEd.trans (hE5.trans hE6))).cell 1 rfl⟩|exact⟨((hB.out.1.ext0 (hEd.trans (hE5.trans hE6))).ext (bb2.set2 _ _).2 (a0b (by omega))).cell 0 rfl,((hB.out.1.ext0 (hEd.trans (hE5.trans hE6))).ext (bb2.set2 _ _).2 (a0b (by omega))).cell 1 rfl,((hB.out.2.1.ext0 (hEd.trans (hE5.trans hE6))).ext (bb2.set2 _ _).2 (a0b (by omega))).cell 0 rfl,((hB.out.2.1.ext0 (hEd.trans (hE5.trans hE6))).ext (bb2.set2 _ _).2 (a0b (by omega))).cell 1 rfl⟩|go_keep)
    (first|(go_at_call 179;refine(b5D (X:=a0f X b 3) (w:=wc.drew) hXc hnx hny).mono ?_;rintro e w5 ⟨hE5,u5,rfl,hu5⟩)|(go_at_call 240;refine(a2D (a0f X b 3) w5 true u5 (x.natAbs*y.natAbs) (HX.ext (w:=wc.drew) hXc hE5) hu5).mono ?_;rintro e w6 ⟨hE6,u6,rfl,s6,a6,c6,l6,rfl,h61,h62,h63⟩;have bb2:=hB.out.2.2.ext0 (hEd.trans (hE5.trans hE6));have g1:=bb2.cell 0 rfl;have g2:=bb2.cell 1 rfl;have g3:=bb2.frozen 0;have g4:=bb2.frozen 1))
   obtain⟨r1,r2⟩:=bb2.set2 (.bool s6) (.slice a6 l6.length c6);have h7:=(h63.mono (a0d.mono _) (a0i r2 (by omega) (by omega))).mono (a0d.mono _) a0l;rw[hfin.out]at h62;have hEf:Ext w _:=ExtX.box (hE1.trans (hEd.trans (hE5.trans hE6))) r2 (by omega);clear g1 g2 g3 g4 k00 k01 k10 k11;go_wp2_with fail
   exact bodyPost_ret (a0e rfl rfl a0H r1 rfl) rfl ⟨hEf,_,rfl,s6,a6,c6,l6,rfl,h61,h62,h7⟩
  ·obtain rfl:sn=true:=hsn'.out.symm
   clear hsn';go_wp2_with fail
   go_region_held3 (fun w'=>w'.cell? ⟨b,0,none⟩=some (.bool true)/\w'.cell? ⟨b,1,none⟩=some (.slice a3 l3.length c3)/\w'.cell? ⟨b+1,0,none⟩=some (.bool false)/\w'.cell? ⟨b+1,1,none⟩=some (.slice a4 l4.length c4))
    (first|exact⟨(hB.out.1.ext0 (hEd.trans hE5)).cell 0 rfl,(hB.out.1.ext0 (hEd.trans hE5)).cell 1 rfl,(hB.out.2.1.ext0 (hEd.trans hE5)).cell 0 rfl,(hB.out.2.1.ext0 (hEd.trans hE5)).cell 1 rfl⟩|exact⟨(hB.out.1.ext0 (hEd.trans (hE5.trans hE6))).cell 0 rfl,(hB.out.1.ext0 (hEd.trans (hE5.trans hE6))).cell 1 rfl,(hB.out.2.1.ext0 (hEd.trans (hE5.trans hE6))).cell 0 rfl,(hB.out.2.1.ext0 (hEd.trans (hE5.trans hE6))).cell 1 rfl⟩|exact⟨((hB.out.1.ext0 (hEd.trans (hE5.trans hE6))).ext (bb2.set2 _ _).2 (a0b (by omega))).cell 0 rfl,((hB.out.1.ext0 (hEd.trans (hE5.trans hE6))).ext (bb2.set2 _ _).2 (a0b (by omega))).cell 1 rfl,((hB.out.2.1.ext0 (hEd.trans (hE5.trans hE6))).ext (bb2.set2 _ _).2 (a0b (by omega))).cell 0 rfl,((hB.out.2.1.ext0 (hEd.trans (hE5.trans hE6))).ext (bb2.set2 _ _).2 (a0b (by omega))).cell 1 rfl⟩|go_keep)
    (first|(go_at_call 179;refine(b5D (X:=a0f X b 3) (w:=wc.drew) hXc hnx hny).mono ?_;rintro e w5 ⟨hE5,u5,rfl,hu5⟩)|(go_at_call 240;refine(a2D (a0f X b 3) w5 true u5 (x.natAbs*y.natAbs) (HX.ext (w:=wc.drew) hXc hE5) hu5).mono ?_;rintro e w6 ⟨hE6,u6,rfl,s6,a6,c6,l6,rfl,h61,h62,h63⟩;have bb2:=hB.out.2.2.ext0 (hEd.trans (hE5.trans hE6));have g1:=bb2.cell 0 rfl;have g2:=bb2.cell 1 rfl;have g3:=bb2.frozen 0;have g4:=bb2.frozen 1))
   obtain⟨r1,r2⟩:=bb2.set2 (.bool s6) (.slice a6 l6.length c6);have h7:=(h63.mono (a0d.mono _) (a0i r2 (by omega) (by omega))).mono (a0d.mono _) a0l;rw[hfin.out]at h62;have hEf:Ext w _:=ExtX.box (hE1.trans (hEd.trans (hE5.trans hE6))) r2 (by omega);clear g1 g2 g3 g4 k00 k01 k10 k11;go_wp2_with fail
   exact bodyPost_ret (a0e rfl rfl a0H r1 rfl) rfl ⟨hEf,_,rfl,s6,a6,c6,l6,rfl,h61,h62,h7⟩
  ·obtain rfl:sn=false:=hsn'.out.symm
   clear hsn';go_wp2_with fail
   go_region_held3 (fun w'=>w'.cell? ⟨b,0,none⟩=some (.bool true)/\w'.cell? ⟨b,1,none⟩=some (.slice a3 l3.length c3)/\w'.cell? ⟨b+1,0,none⟩=some (.bool true)/\w'.cell? ⟨b+1,1,none⟩=some (.slice a4 l4.length c4))
    (first|exact⟨(hB.out.1.ext0 (hEd.trans hE5)).cell 0 rfl,(hB.out.1.ext0 (hEd.trans hE5)).cell 1 rfl,(hB.out.2.1.ext0 (hEd.trans hE5)).cell 0 rfl,(hB.out.2.1.ext0 (hEd.trans hE5)).cell 1 rfl⟩|exact⟨(hB.out.1.ext0 (hEd.trans (hE5.trans hE6))).cell 0 rfl,(hB.out.1.ext0 (hEd.trans (hE5.trans hE6))).cell 1 rfl,(hB.out.2.1.ext0 (hEd.trans (hE5.trans hE6))).cell 0 rfl,(hB.out.2.1.ext0 (hEd.trans (hE5.trans hE6))).cell 1 rfl⟩|exact⟨((hB.out.1.ext0 (hEd.trans (hE5.trans hE6))).ext (bb2.set2 _ _).2 (a0b (by omega))).cell 0 rfl,((hB.out.1.ext0 (hEd.trans (hE5.trans hE6))).ext (bb2.set2 _ _).2 (a0b (by omega))).cell 1 rfl,((hB.out.2.1.ext0 (hEd.trans (hE5.trans hE6))).ext (bb2.set2 _ _).2 (a0b (by omega))).cell 0 rfl,((hB.out.2.1.ext0 (hEd.trans (hE5.trans hE6))).ext (bb2.set2 _ _).2 (a0b (by omega))).cell 1 rfl⟩|go_keep)
    (first|(go_at_call 179;refine(b5D (X:=a0f X b 3) (w:=wc.drew) hXc hnx hny).mono ?_;rintro e w5 ⟨hE5,u5,rfl,hu5⟩)|(go_at_call 240;refine(a2D (a0f X b 3) w5 false u5 (x.natAbs*y.natAbs) (HX.ext (w:=wc.drew) hXc hE5) hu5).mono ?_;rintro e w6 ⟨hE6,u6,rfl,s6,a6,c6,l6,rfl,h61,h62,h63⟩;have bb2:=hB.out.2.2.ext0 (hEd.trans (hE5.trans hE6));have g1:=bb2.cell 0 rfl;have g2:=bb2.cell 1 rfl;have g3:=bb2.frozen 0;have g4:=bb2.frozen 1))
   obtain⟨r1,r2⟩:=bb2.set2 (.bool s6) (.slice a6 l6.length c6);have h7:=(h63.mono (a0d.mono _) (a0i r2 (by omega) (by omega))).mono (a0d.mono _) a0l;rw[hfin.out]at h62;have hEf:Ext w _:=ExtX.box (hE1.trans (hEd.trans (hE5.trans hE6))) r2 (by omega);clear g1 g2 g3 g4 k00 k01 k10 k11;go_wp2_with fail
   exact bodyPost_ret (a0e rfl rfl a0H r1 rfl) rfl ⟨hEf,_,rfl,s6,a6,c6,l6,rfl,h61,h62,h7⟩
theorem c0I (X:Nat->Bool) (w:World) (u:Value) (x:Int) (hX:HX X w) (hu:ZV (mk X w) u x):Calls Tryz.prog 242 #[u] w (a1Z X w ZC (-x)):=by
 have hlx:=hid hu.lg;obtain⟨s1,a1,c1,l1,rfl,hu'⟩:=id hu;obtain⟨W,hW,hE,b0,b1,hz⟩:=a1v w #[.bool s1, .slice a1 l1.length c1] #[.bool false, .slice none 0 0] 43 43;have hXW:HX (a0f X w.heap.size 2) W:=hX.boxes hz;have hu1:=ZV.mono _ _ _ _ (a0o (nb:=2) hE) hu;obtain⟨b,hb⟩:∃b,w.heap.size=b:=⟨_,rfl⟩;have hbw:w.heap.size<=b:=by omega
 rw[hb]at b0 b1 hz hXW hu1;have k00:=b0.cell 0 rfl;have k01:=b0.cell 1 rfl;clear hu hu';go_enter Tryz.func242,Tryz.ntmps242
 go_wp2_with fail
 refine(a5x (a0f X b 2) W _ x hXW hu1).mono ?_;rintro e w5 ⟨hE5,u5,rfl,hu5⟩;have hX5:=hXW.ext hE5;clear k00 k01;go_wp2_with fail
 refine(b6I (a0f X b 2) w5 _ x hX5 hu5 hlx.out).mono ?_;rintro e w6 ⟨hE6,u6,rfl,s6,a6,c6,l6,rfl,h61,h62,h63⟩;have bb0:=(b0.ext0 hE5).ext0 hE6;have bb1:=(b1.ext0 hE5).ext0 hE6;have hsz:=hid (a3F h62);go_wp2_with ((with_reducible show wpList _ _ _ (⟨_, .store _ _ _,_,_,_,_⟩::_) _ _);refine a0c a0H rfl rfl bb0 rfl rfl (a2K _ _ _ _) ?_;intro w7 r1 r2;have k00:=r1.cell 0 rfl;have k01:=r1.cell 1 rfl)
 have hX7:=(hX5.ext hE6).ext r2;have bb3:=bb1.ext r2 (a0b (by omega));have hn:NC (mk (a0f X b 2) w7) (.slice a6 l6.length c6) x.natAbs:=⟨a6,c6,l6,rfl,h61,h62.2,h63.mono (a0d.mono _) (a0i r2 (by omega) (by omega))⟩;have hfin:Hid (sg (!s6) x.natAbs= -x):=hid (by
  have e1:=hsz.out;rw[<-e1,a6S];unfold sg;cases s6<;>simp)
 refine(a2D (a0f X b 2) w7 (!s6) _ _ hX7 hn).mono ?_;rintro e w8 ⟨hE8,u8,rfl,s8,a8,c8,l8,rfl,h81,h82,h83⟩;rw[hfin.out]at h82;have bb4:=bb3.ext0 hE8;clear k00 k01;go_wp2_with ((with_reducible show wpList _ _ _ (⟨_, .store _ _ _,_,_,_,_⟩::_) _ _);refine a0c a0H rfl rfl bb4 rfl rfl (a2K _ _ _ _) ?_;intro w9 q1 q2)
 have h7:=(h83.mono (a0d.mono _) (a0i q2 (by omega) (by omega))).mono (a0d.mono _) a0l;exact bodyPost_ret (a0e rfl rfl a0H q1 rfl) rfl ⟨ExtX.box ((ExtX.box (hE.trans (hE5.trans hE6)) r2 (by omega)).trans hE8) q2 (by omega),_,rfl,s8,a8,c8,l8,rfl,h81,h82,h7⟩
theorem b0C (X:Nat->Bool) (w:World) (u:Value) (x:Int) (hX:HX X w) (hu:ZV (mk X w) u x):Calls Tryz.prog 207 #[u] w (a4j w x.sign):=by
 obtain⟨s1,a1,c1,l1,rfl,hu'⟩:=id hu;obtain⟨W,hW,hE,b0,hz⟩:=a1t w #[.bool s1, .slice a1 l1.length c1] 43;have hXW:HX (a0f X w.heap.size 1) W:=hX.boxes hz;have hu1:=ZV.mono _ _ _ _ (a0o (nb:=1) hE) hu;obtain⟨b,hb⟩:∃b,w.heap.size=b:=⟨_,rfl⟩;have hbw:w.heap.size<=b:=by omega
 rw[hb]at b0 hz hXW hu1;have k00:=b0.cell 0 rfl;have k01:=b0.cell 1 rfl;clear hu hu';go_enter Tryz.func207,Tryz.ntmps207
 go_wp2_with fail
 refine(a5x (a0f X b 1) W _ x hXW hu1).mono ?_;rintro e w5 ⟨hE5,u5,rfl,s6,a6,c6,l6,rfl,h61,h62,h63⟩;have bb0:=b0.ext0 hE5;have hl0:=hid h62.len0;have hs6:=hid h62.1;clear k00 k01 h62;by_cases h0:l6.length=0
 ·have hx0:x=0:=hl0.out.1 h0
  subst hx0;have hI:((l6.length:Int)==0)=true:=a7e (by omega);have hl6:(l6.length:Int)=0:=by omega
  clear hl0 hs6 h0;go_wp2_with ((with_reducible show wpList _ _ _ (⟨_, .store _ _ _,_,_,_,_⟩::_) _ _);refine a0c a0H rfl rfl bb0 rfl rfl (a2K _ _ _ _) ?_;intro w7 r1 r2;have k00:=r1.cell 0 rfl;have k01:=r1.cell 1 rfl)
  have hEf:=ExtX.box (hE.trans hE5) r2 (by omega);go_ret
  exact⟨hEf,rfl⟩
 ·have hI:((l6.length:Int)==0)=false:=a2I (by omega)
  have hx0:¬x=0:=fun h=>h0 (hl0.out.2 h);by_cases hneg:x<0
  ·have hf:Hid (x.sign= -1):=hid (Int.sign_eq_neg_one_of_neg hneg)
   obtain rfl:s6=true:=by rw[hs6.out];exact decide_eq_true hneg
   clear hl0 h0 hx0 hneg hs6;go_wp2_with ((with_reducible show wpList _ _ _ (⟨_, .store _ _ _,_,_,_,_⟩::_) _ _);refine a0c a0H rfl rfl bb0 rfl rfl (a2K _ _ _ _) ?_;intro w7 r1 r2;have k00:=r1.cell 0 rfl;have k01:=r1.cell 1 rfl)
   have hEf:=ExtX.box (hE.trans hE5) r2 (by omega);go_ret
   exact⟨hEf,a0J hf.out.symm⟩
  ·have hf:Hid (x.sign=1):=hid (Int.sign_eq_one_of_pos (by omega))
   obtain rfl:s6=false:=by rw[hs6.out];exact decide_eq_false hneg
   clear hl0 h0 hx0 hneg hs6;go_wp2_with ((with_reducible show wpList _ _ _ (⟨_, .store _ _ _,_,_,_,_⟩::_) _ _);refine a0c a0H rfl rfl bb0 rfl rfl (a2K _ _ _ _) ?_;intro w7 r1 r2;have k00:=r1.cell 0 rfl;have k01:=r1.cell 1 rfl)
   have hEf:=ExtX.box (hE.trans hE5) r2 (by omega);go_ret
   exact⟨hEf,a0J hf.out.symm⟩
set_option maxRecDepth 100000 in
set_option maxHeartbeats 800000 in
theorem a8V (X:Nat->Bool) (w:World) (u v:Value) (x y:Int) (hX:HX X w) (hu:ZV (mk X w) u x) (hv:ZV (mk X w) v y) (hbx:lg x.natAbs<=274877906944) (hby:lg y.natAbs<=274877906944):Calls Tryz.prog 136 #[u,v] w (a1Z X w ZC (x*y)):=by
 have hbx':=hid hbx;have hby':=hid hby;clear hbx hby;have hlx:=hid hu.lg;have hly:=hid hv.lg;obtain⟨s1,a1,c1,l1,rfl,hu'⟩:=id hu;obtain⟨s2,a2,c2,l2,rfl,hv'⟩:=id hv;obtain⟨W,hW,hE,b0,b1,b2,hz⟩:=a2x w #[.bool s1, .slice a1 l1.length c1] #[.bool s2, .slice a2 l2.length c2] #[.bool false, .slice none 0 0] 43 43 43;have hXW:HX (a0f X w.heap.size 3) W:=hX.boxes hz;have hu1:=ZV.mono _ _ _ _ (a0o (nb:=3) hE) hu;have hv1:=ZV.mono _ _ _ _ (a0o (nb:=3) hE) hv;obtain⟨b,hb⟩:∃b,w.heap.size=b:=⟨_,rfl⟩;have hbw:w.heap.size<=b:=by omega
 rw[hb]at b0 b1 b2 hz hXW hu1 hv1;have hEd:Ext W W.drew:=(ExtX.refl W).drew;have hXd:HX (a0f X b 3) W.drew:=hXW;have hud:ZV (mk (a0f X b 3) W.drew) (.agg #[.bool s1, .slice a1 l1.length c1]) x:=hu1;have hvd:ZV (mk (a0f X b 3) W.drew) (.agg #[.bool s2, .slice a2 l2.length c2]) y:=hv1;have k00:=b0.cell 0 rfl;have k01:=b0.cell 1 rfl;have k10:=b1.cell 0 rfl;have k11:=b1.cell 1 rfl;clear hu hv hu' hv';go_enter Tryz.func136,Tryz.ntmps136
 go_upto_region 1 with(fail)
 go_cut []from 5 to 8 (fun wx=>∃s3 a3 c3 l3 s4 a4 c4 l4,Bx wx b #[.bool s3, .slice a3 l3 c3] 43/\Bx wx (b+1) #[.bool s4, .slice a4 l4 c4] 43/\Bx wx (b+1+1) #[.bool false, .slice none 0 0] 43/\ZC (mk (a0f X b 3) wx) (.agg #[.bool s3, .slice a3 l3 c3]) x/\ZC (mk (a0f X b 3) wx) (.agg #[.bool s4, .slice a4 l4 c4]) y/\Ext w wx)
 case first=>
  go_region_with (first|(go_at_call 187;(with_reducible refine(a3G (a0f X b 3) W.drew _ x hXd hud).mono ?_);rintro e w5 ⟨hE5,u5,rfl,s5,a5,c5,l5,rfl,h51,h52,h53⟩;have bb0:=b0.ext0 (hEd.trans hE5);have bb1:=b1.ext0 (hEd.trans hE5);have e00:=bb0.cell 0 rfl;have e01:=bb0.cell 1 rfl;have e10:=bb1.cell 0 rfl;have e11:=bb1.cell 1 rfl)|(go_at_call 187;(with_reducible refine(a3G (a0f X b 3) w5 _ y (HX.ext hXd hE5) (mkx ZV.mono hvd hE5)).mono ?_);rintro e w6 ⟨hE6,u6,rfl,s6,a6,c6,l6,rfl,h61,h62,h63⟩;have bb2:=bb0.ext0 hE6;have bb3:=bb1.ext0 hE6;have g00:=bb2.cell 0 rfl;have g01:=bb2.cell 1 rfl;have g10:=bb3.cell 0 rfl;have g11:=bb3.cell 1 rfl;have fr0:=bb2.frozen 0;have fr1:=bb2.frozen 1;have fr2:=bb3.frozen 0;have fr3:=bb3.frozen 1))
  all_goals
   obtain⟨wf,hwf,q0,q1,q2,q3,q4⟩:=a2i (X:=X) (nb:=3) bb2 bb3 (hE.trans ((hEd.trans hE5).trans hE6)) hbw (by omega) (.bool s5) (.slice a5 l5.length c5) (.bool s6) (.slice a6 l6.length c6);rw[hwf];have hfx:ZC (mk (a0f X b 3) wf) (.agg #[.bool s5, .slice a5 l5.length c5]) x:=⟨s5,a5,c5,l5,rfl,h51,h52,(h53.mono (a0d.mono _) (a0p hE6)).mono (a0d.mono _) q4⟩;have hfy:ZC (mk (a0f X b 3) wf) (.agg #[.bool s6, .slice a6 l6.length c6]) y:=⟨s6,a6,c6,l6,rfl,h61,h62,h63.mono (a0d.mono _) q4⟩;have q5:=q2 (b+1+1) _ _ (by omega) (by omega) ((b2.ext0 (hEd.trans hE5)).ext0 hE6);clear e00 e01 e10 e11 g00 g01 g10 g11 fr0 fr1 fr2 fr3 k00 k01 k10 k11 hwf;go_wp2_with fail
   go_meet
   exact⟨_,_,_,_,_,_,_,_,q0,q1,q5,hfx,hfy,q3⟩
 case rest=>
  clear k00 k01 k10 k11 b0 b1 b2 hu1 hv1 hud hvd hXd hEd hW;obtain⟨s3,a3,c3,n3,s4,a4,c4,n4,b0,b1,b2,hx,hy,hE1⟩:=hcut;obtain⟨_,_,_,l3,heq,h31,h32,h33⟩:=hx;simp only[Value.agg.injEq,Array.mk.injEq,List.cons.injEq,Value.bool.injEq,Value.slice.injEq,and_true]at heq;obtain⟨rfl,rfl,rfl,rfl⟩:=heq;obtain⟨_,_,_,l4,heq,h41,h42,h43⟩:=hy;simp only[Value.agg.injEq,Array.mk.injEq,List.cons.injEq,Value.bool.injEq,Value.slice.injEq,and_true]at heq;obtain⟨rfl,rfl,rfl,rfl⟩:=heq;have hlz:=hid (a3F h32);have hlw:=hid (a3F h42);have hsx:=hid h32.1;have hsy:=hid h42.1;have hEd:Ext wc wc.drew:=(ExtX.refl wc).drew;have hnx:NV (mk (a0f X b 3) wc) (.slice a3 l3.length c3) x.natAbs:=NC.nv ⟨a3,c3,l3,rfl,h31,h32.2,h33⟩ (by have:=hlx.out;omega);have hny:NV (mk (a0f X b 3) wc) (.slice a4 l4.length c4) y.natAbs:=NC.nv ⟨a4,c4,l4,rfl,h41,h42.2,h43⟩ (by have:=hly.out;omega);have hzz:w.heap.size+3<=wc.heap.size:=by have:=b2.lt;omega
  have hXc:HX (a0f X b 3) wc:=hX.boxes' hE1 (by omega) hzz;have hB:=hid (And.intro b0 (And.intro b1 b2));have k00:=b0.cell 0 rfl;have k01:=b0.cell 1 rfl;have k10:=b1.cell 0 rfl;have k11:=b1.cell 1 rfl;have hn1:b+1≠b+1+1:=by omega
  have hn2:b≠b+1+1:=by omega
  obtain⟨sn,hsn⟩:∃sn,(s3 !=s4)=sn:=⟨_,rfl⟩;have hfin:Hid (sg sn (x.natAbs*y.natAbs)=x*y):=hid (by
   have e1:=hlz.out;have e2:=hlw.out;rw[<-hsn,<-e1,<-e2,a6S,a6S];unfold sg;cases s3<;>cases s4<;>simp[Int.natCast_mul,Int.neg_mul,Int.mul_neg])
  have hsn':=hid hsn;clear hsx hsy hlz hlw hsn h32 h42;cases s3<;>cases s4
  ·obtain rfl:sn=false:=hsn'.out.symm
   clear hsn';go_wp2_with fail
   go_region_held3 (fun w'=>w'.cell? ⟨b,0,none⟩=some (.bool false)/\w'.cell? ⟨b,1,none⟩=some (.slice a3 l3.length c3)/\w'.cell? ⟨b+1,0,none⟩=some (.bool false)/\w'.cell? ⟨b+1,1,none⟩=some (.slice a4 l4.length c4))
    (first|exact⟨(hB.out.1.ext0 (hEd.trans hE5)).cell 0 rfl,(hB.out.1.ext0 (hEd.trans hE5)).cell 1 rfl,(hB.out.2.1.ext0 (hEd.trans hE5)).cell 0 rfl,(hB.out.2.1.ext0 (hEd.trans hE5)).cell 1 rfl⟩|exact⟨(hB.out.1.ext0 (hEd.trans (hE5.trans hE6))).cell 0 rfl,(hB.out.1.ext0 (hEd.trans (hE5.trans hE6))).cell 1 rfl,(hB.out.2.1.ext0 (hEd.trans (hE5.trans hE6))).cell 0 rfl,(hB.out.2.1.ext0 (hEd.trans (hE5.trans hE6))).cell 1 rfl⟩|exact⟨((hB.out.1.ext0 (hEd.trans (hE5.trans hE6))).ext (bb2.set2 _ _).2 (a0b (by omega))).cell 0 rfl,((hB.out.1.ext0 (hEd.trans (hE5.trans hE6))).ext (bb2.set2 _ _).2 (a0b (by omega))).cell 1 rfl,((hB.out.2.1.ext0 (hEd.trans (hE5.trans hE6))).ext (bb2.set2 _ _).2 (a0b (by omega))).cell 0 rfl,((hB.out.2.1.ext0 (hEd.trans (hE5.trans hE6))).ext (bb2.set2 _ _).2 (a0b (by omega))).cell 1 rfl⟩|go_keep)
    (first|(go_at_call 211;refine(b3M (a0f X b 3) wc.drew _ _ _ _ hXc hnx hny hbx'.out hby'.out).mono ?_;rintro e w5 ⟨hE5,u5,rfl,hu5⟩)|(go_at_call 184;refine(a1I (a0f X b 3) w5 false u5 (x.natAbs*y.natAbs) (HX.ext (w:=wc.drew) hXc hE5) hu5).mono ?_;rintro e w6 ⟨hE6,u6,rfl,s6,a6,c6,l6,rfl,h61,h62,h63⟩;have bb2:=hB.out.2.2.ext0 (hEd.trans (hE5.trans hE6));have g1:=bb2.cell 0 rfl;have g2:=bb2.cell 1 rfl;have g3:=bb2.frozen 0;have g4:=bb2.frozen 1))
   obtain⟨r1,r2⟩:=bb2.set2 (.bool s6) (.slice a6 l6.length c6);have h7:=(h63.mono (a0d.mono _) (a0i r2 (by omega) (by omega))).mono (a0d.mono _) a0l;rw[hfin.out]at h62;have hEf:Ext w _:=ExtX.box (hE1.trans (hEd.trans (hE5.trans hE6))) r2 (by omega);clear g1 g2 g3 g4 k00 k01 k10 k11;go_wp2_with fail
   exact bodyPost_ret (a0e rfl rfl a0H r1 rfl) rfl ⟨hEf,_,rfl,s6,a6,c6,l6,rfl,h61,h62,h7⟩
  ·obtain rfl:sn=true:=hsn'.out.symm
   clear hsn';go_wp2_with fail
   go_region_held3 (fun w'=>w'.cell? ⟨b,0,none⟩=some (.bool false)/\w'.cell? ⟨b,1,none⟩=some (.slice a3 l3.length c3)/\w'.cell? ⟨b+1,0,none⟩=some (.bool true)/\w'.cell? ⟨b+1,1,none⟩=some (.slice a4 l4.length c4))
    (first|exact⟨(hB.out.1.ext0 (hEd.trans hE5)).cell 0 rfl,(hB.out.1.ext0 (hEd.trans hE5)).cell 1 rfl,(hB.out.2.1.ext0 (hEd.trans hE5)).cell 0 rfl,(hB.out.2.1.ext0 (hEd.trans hE5)).cell 1 rfl⟩|exact⟨(hB.out.1.ext0 (hEd.trans (hE5.trans hE6))).cell 0 rfl,(hB.out.1.ext0 (hEd.trans (hE5.trans hE6))).cell 1 rfl,(hB.out.2.1.ext0 (hEd.trans (hE5.trans hE6))).cell 0 rfl,(hB.out.2.1.ext0 (hEd.trans (hE5.trans hE6))).cell 1 rfl⟩|exact⟨((hB.out.1.ext0 (hEd.trans (hE5.trans hE6))).ext (bb2.set2 _ _).2 (a0b (by omega))).cell 0 rfl,((hB.out.1.ext0 (hEd.trans (hE5.trans hE6))).ext (bb2.set2 _ _).2 (a0b (by omega))).cell 1 rfl,((hB.out.2.1.ext0 (hEd.trans (hE5.trans hE6))).ext (bb2.set2 _ _).2 (a0b (by omega))).cell 0 rfl,((hB.out.2.1.ext0 (hEd.trans (hE5.trans hE6))).ext (bb2.set2 _ _).2 (a0b (by omega))).cell 1 rfl⟩|go_keep)
    (first|(go_at_call 211;refine(b3M (a0f X b 3) wc.drew _ _ _ _ hXc hnx hny hbx'.out hby'.out).mono ?_;rintro e w5 ⟨hE5,u5,rfl,hu5⟩)|(go_at_call 184;refine(a1I (a0f X b 3) w5 true u5 (x.natAbs*y.natAbs) (HX.ext (w:=wc.drew) hXc hE5) hu5).mono ?_;rintro e w6 ⟨hE6,u6,rfl,s6,a6,c6,l6,rfl,h61,h62,h63⟩;have bb2:=hB.out.2.2.ext0 (hEd.trans (hE5.trans hE6));have g1:=bb2.cell 0 rfl;have g2:=bb2.cell 1 rfl;have g3:=bb2.frozen 0;have g4:=bb2.frozen 1))
   obtain⟨r1,r2⟩:=bb2.set2 (.bool s6) (.slice a6 l6.length c6);have h7:=(h63.mono (a0d.mono _) (a0i r2 (by omega) (by omega))).mono (a0d.mono _) a0l;rw[hfin.out]at h62;have hEf:Ext w _:=ExtX.box (hE1.trans (hEd.trans (hE5.trans hE6))) r2 (by omega);clear g1 g2 g3 g4 k00 k01 k10 k11;go_wp2_with fail
   exact bodyPost_ret (a0e rfl rfl a0H r1 rfl) rfl ⟨hEf,_,rfl,s6,a6,c6,l6,rfl,h61,h62,h7⟩
  ·obtain rfl:sn=true:=hsn'.out.symm
   clear hsn';go_wp2_with fail
   go_region_held3 (fun w'=>w'.cell? ⟨b,0,none⟩=some (.bool true)/\w'.cell? ⟨b,1,none⟩=some (.slice a3 l3.length c3)/\w'.cell? ⟨b+1,0,none⟩=some (.bool false)/\w'.cell? ⟨b+1,1,none⟩=some (.slice a4 l4.length c4))
    (first|exact⟨(hB.out.1.ext0 (hEd.trans hE5)).cell 0 rfl,(hB.out.1.ext0 (hEd.trans hE5)).cell 1 rfl,(hB.out.2.1.ext0 (hEd.trans hE5)).cell 0 rfl,(hB.out.2.1.ext0 (hEd.trans hE5)).cell 1 rfl⟩|exact⟨(hB.out.1.ext0 (hEd.trans (hE5.trans hE6))).cell 0 rfl,(hB.out.1.ext0 (hEd.trans (hE5.trans hE6))).cell 1 rfl,(hB.out.2.1.ext0 (hEd.trans (hE5.trans hE6))).cell 0 rfl,(hB.out.2.1.ext0 (hEd.trans (hE5.trans hE6))).cell 1 rfl⟩|exact⟨((hB.out.1.ext0 (hEd.trans (hE5.trans hE6))).ext (bb2.set2 _ _).2 (a0b (by omega))).cell 0 rfl,((hB.out.1.ext0 (hEd.trans (hE5.trans hE6))).ext (bb2.set2 _ _).2 (a0b (by omega))).cell 1 rfl,((hB.out.2.1.ext0 (hEd.trans (hE5.trans hE6))).ext (bb2.set2 _ _).2 (a0b (by omega))).cell 0 rfl,((hB.out.2.1.ext0 (hEd.trans (hE5.trans hE6))).ext (bb2.set2 _ _).2 (a0b (by omega))).cell 1 rfl⟩|go_keep)
    (first|(go_at_call 211;refine(b3M (a0f X b 3) wc.drew _ _ _ _ hXc hnx hny hbx'.out hby'.out).mono ?_;rintro e w5 ⟨hE5,u5,rfl,hu5⟩)|(go_at_call 184;refine(a1I (a0f X b 3) w5 true u5 (x.natAbs*y.natAbs) (HX.ext (w:=wc.drew) hXc hE5) hu5).mono ?_;rintro e w6 ⟨hE6,u6,rfl,s6,a6,c6,l6,rfl,h61,h62,h63⟩;have bb2:=hB.out.2.2.ext0 (hEd.trans (hE5.trans hE6));have g1:=bb2.cell 0 rfl;have g2:=bb2.cell 1 rfl;have g3:=bb2.frozen 0;have g4:=bb2.frozen 1))
   obtain⟨r1,r2⟩:=bb2.set2 (.bool s6) (.slice a6 l6.length c6);have h7:=(h63.mono (a0d.mono _) (a0i r2 (by omega) (by omega))).mono (a0d.mono _) a0l;rw[hfin.out]at h62;have hEf:Ext w _:=ExtX.box (hE1.trans (hEd.trans (hE5.trans hE6))) r2 (by omega);clear g1 g2 g3 g4 k00 k01 k10 k11;go_wp2_with fail
   exact bodyPost_ret (a0e rfl rfl a0H r1 rfl) rfl ⟨hEf,_,rfl,s6,a6,c6,l6,rfl,h61,h62,h7⟩
  ·obtain rfl:sn=false:=hsn'.out.symm
   clear hsn';go_wp2_with fail
   go_region_held3 (fun w'=>w'.cell? ⟨b,0,none⟩=some (.bool true)/\w'.cell? ⟨b,1,none⟩=some (.slice a3 l3.length c3)/\w'.cell? ⟨b+1,0,none⟩=some (.bool true)/\w'.cell? ⟨b+1,1,none⟩=some (.slice a4 l4.length c4))
    (first|exact⟨(hB.out.1.ext0 (hEd.trans hE5)).cell 0 rfl,(hB.out.1.ext0 (hEd.trans hE5)).cell 1 rfl,(hB.out.2.1.ext0 (hEd.trans hE5)).cell 0 rfl,(hB.out.2.1.ext0 (hEd.trans hE5)).cell 1 rfl⟩|exact⟨(hB.out.1.ext0 (hEd.trans (hE5.trans hE6))).cell 0 rfl,(hB.out.1.ext0 (hEd.trans (hE5.trans hE6))).cell 1 rfl,(hB.out.2.1.ext0 (hEd.trans (hE5.trans hE6))).cell 0 rfl,(hB.out.2.1.ext0 (hEd.trans (hE5.trans hE6))).cell 1 rfl⟩|exact⟨((hB.out.1.ext0 (hEd.trans (hE5.trans hE6))).ext (bb2.set2 _ _).2 (a0b (by omega))).cell 0 rfl,((hB.out.1.ext0 (hEd.trans (hE5.trans hE6))).ext (bb2.set2 _ _).2 (a0b (by omega))).cell 1 rfl,((hB.out.2.1.ext0 (hEd.trans (hE5.trans hE6))).ext (bb2.set2 _ _).2 (a0b (by omega))).cell 0 rfl,((hB.out.2.1.ext0 (hEd.trans (hE5.trans hE6))).ext (bb2.set2 _ _).2 (a0b (by omega))).cell 1 rfl⟩|go_keep)
    (first|(go_at_call 211;refine(b3M (a0f X b 3) wc.drew _ _ _ _ hXc hnx hny hbx'.out hby'.out).mono ?_;rintro e w5 ⟨hE5,u5,rfl,hu5⟩)|(go_at_call 184;refine(a1I (a0f X b 3) w5 false u5 (x.natAbs*y.natAbs) (HX.ext (w:=wc.drew) hXc hE5) hu5).mono ?_;rintro e w6 ⟨hE6,u6,rfl,s6,a6,c6,l6,rfl,h61,h62,h63⟩;have bb2:=hB.out.2.2.ext0 (hEd.trans (hE5.trans hE6));have g1:=bb2.cell 0 rfl;have g2:=bb2.cell 1 rfl;have g3:=bb2.frozen 0;have g4:=bb2.frozen 1))
   obtain⟨r1,r2⟩:=bb2.set2 (.bool s6) (.slice a6 l6.length c6);have h7:=(h63.mono (a0d.mono _) (a0i r2 (by omega) (by omega))).mono (a0d.mono _) a0l;rw[hfin.out]at h62;have hEf:Ext w _:=ExtX.box (hE1.trans (hEd.trans (hE5.trans hE6))) r2 (by omega);clear g1 g2 g3 g4 k00 k01 k10 k11;go_wp2_with fail
   exact bodyPost_ret (a0e rfl rfl a0H r1 rfl) rfl ⟨hEf,_,rfl,s6,a6,c6,l6,rfl,h61,h62,h7⟩
def b1A (w:World) (b:Bool) (e:Ending) (w':World):Prop:=Ext w w'/\e= .returned (.bool b)
theorem b6J (X:Nat->Bool) (w:World) (u:Value) (x:Int) (hX:HX X w) (hu:ZV (mk X w) u x):Calls Tryz.prog 180 #[u] w (a1Z X w ZC (-x)):=by
 obtain⟨s1,a1,c1,l1,rfl,hu'⟩:=id hu;obtain⟨W,hW,hE,b0,b1,hz⟩:=a1v w #[.bool s1, .slice a1 l1.length c1] #[.bool false, .slice none 0 0] 43 43;have hXW:HX (a0f X w.heap.size 2) W:=hX.boxes hz;have hu1:=ZV.mono _ _ _ _ (a0o (nb:=2) hE) hu;obtain⟨b,hb⟩:∃b,w.heap.size=b:=⟨_,rfl⟩;have hbw:w.heap.size<=b:=by omega
 rw[hb]at b0 b1 hz hXW hu1;have k00:=b0.cell 0 rfl;have k01:=b0.cell 1 rfl;clear hu hu';go_enter Tryz.func180,Tryz.ntmps180
 go_wp2_with fail
 refine(a3G (a0f X b 2) W _ x hXW hu1).mono ?_;rintro e w6 ⟨hE6,u6,rfl,s6,a6,c6,l6,rfl,h61,h62,h63⟩;have hX6:=hXW.ext hE6;have bb0:=b0.ext0 hE6;have bb1:=b1.ext0 hE6;have hsz:=hid (a3F h62);clear k00 k01;go_wp2_with ((with_reducible show wpList _ _ _ (⟨_, .store _ _ _,_,_,_,_⟩::_) _ _);refine a0c a0H rfl rfl bb0 rfl rfl (a2K _ _ _ _) ?_;intro w7 r1 r2;have k00:=r1.cell 0 rfl;have k01:=r1.cell 1 rfl)
 have hX7:=hX6.ext r2;have bb3:=bb1.ext r2 (a0b (by omega));have hn:NC (mk (a0f X b 2) w7) (.slice a6 l6.length c6) x.natAbs:=⟨a6,c6,l6,rfl,h61,h62.2,h63.mono (a0d.mono _) (a0i r2 (by omega) (by omega))⟩;have hfin:Hid (sg (!s6) x.natAbs= -x):=hid (by
  have e1:=hsz.out;rw[<-e1,a6S];unfold sg;cases s6<;>simp)
 refine(a1I (a0f X b 2) w7 (!s6) _ _ hX7 hn).mono ?_;rintro e w8 ⟨hE8,u8,rfl,s8,a8,c8,l8,rfl,h81,h82,h83⟩;rw[hfin.out]at h82;have bb4:=bb3.ext0 hE8;clear k00 k01;go_wp2_with ((with_reducible show wpList _ _ _ (⟨_, .store _ _ _,_,_,_,_⟩::_) _ _);refine a0c a0H rfl rfl bb4 rfl rfl (a2K _ _ _ _) ?_;intro w9 q1 q2)
 have h7:=(h83.mono (a0d.mono _) (a0i q2 (by omega) (by omega))).mono (a0d.mono _) a0l;exact bodyPost_ret (a0e rfl rfl a0H q1 rfl) rfl ⟨ExtX.box ((ExtX.box (hE.trans hE6) r2 (by omega)).trans hE8) q2 (by omega),_,rfl,s8,a8,c8,l8,rfl,h81,h82,h7⟩
theorem b5H (X:Nat->Bool) (w:World) (u:Value) (x:Int) (hX:HX X w) (hu:ZV (mk X w) u x):Calls Tryz.prog 106 #[u] w (a4j w x.sign):=by
 obtain⟨s1,a1,c1,l1,rfl,hu'⟩:=id hu;obtain⟨W,hW,hE,b0,hz⟩:=a1t w #[.bool s1, .slice a1 l1.length c1] 43;have hXW:HX (a0f X w.heap.size 1) W:=hX.boxes hz;have hu1:=ZV.mono _ _ _ _ (a0o (nb:=1) hE) hu;obtain⟨b,hb⟩:∃b,w.heap.size=b:=⟨_,rfl⟩;have hbw:w.heap.size<=b:=by omega
 rw[hb]at b0 hz hXW hu1;have k00:=b0.cell 0 rfl;have k01:=b0.cell 1 rfl;clear hu hu';go_enter Tryz.func106,Tryz.ntmps106
 go_wp2_with fail
 refine(a3G (a0f X b 1) W _ x hXW hu1).mono ?_;rintro e w5 ⟨hE5,u5,rfl,s6,a6,c6,l6,rfl,h61,h62,h63⟩;have bb0:=b0.ext0 hE5;have hl0:=hid h62.len0;have hs6:=hid h62.1;clear k00 k01 h62;by_cases hneg:x<0
 ·have hf:Hid (x.sign= -1):=hid (Int.sign_eq_neg_one_of_neg hneg)
  obtain rfl:s6=true:=by rw[hs6.out];exact decide_eq_true hneg
  clear hl0 hneg hs6;go_wp2_with ((with_reducible show wpList _ _ _ (⟨_, .store _ _ _,_,_,_,_⟩::_) _ _);refine a0c a0H rfl rfl bb0 rfl rfl (a2K _ _ _ _) ?_;intro w7 r1 r2;have k00:=r1.cell 0 rfl;have k01:=r1.cell 1 rfl)
  have hEf:=ExtX.box (hE.trans hE5) r2 (by omega);go_ret
  exact⟨hEf,a0J hf.out.symm⟩
 ·obtain rfl:s6=false:=by rw[hs6.out];exact decide_eq_false hneg
  by_cases h0:l6.length=0
  ·have hx0:x=0:=hl0.out.1 h0
   subst hx0;obtain rfl:l6= []:=List.eq_nil_of_length_eq_zero h0;clear hl0 hs6 h0 hneg;simp only[List.length_nil]at h61 |-;go_wp2_with ((with_reducible show wpList _ _ _ (⟨_, .store _ _ _,_,_,_,_⟩::_) _ _);refine a0c a0H rfl rfl bb0 rfl rfl (a2K _ _ _ _) ?_;intro w7 r1 r2;have k00:=r1.cell 0 rfl;have k01:=r1.cell 1 rfl)
   have hEf:=ExtX.box (hE.trans hE5) r2 (by omega);go_ret
   exact⟨hEf,rfl⟩
  ·have hx0:¬x=0:=fun h=>h0 (hl0.out.2 h)
   have hp:0<l6.length:=by omega
   have hf:Hid (x.sign=1):=hid (Int.sign_eq_one_of_pos (by omega));clear hl0 hx0 hneg hs6 h0;go_wp2_with ((with_reducible show wpList _ _ _ (⟨_, .store _ _ _,_,_,_,_⟩::_) _ _);refine a0c a0H rfl rfl bb0 rfl rfl (a2K _ _ _ _) ?_;intro w7 r1 r2;have k00:=r1.cell 0 rfl;have k01:=r1.cell 1 rfl)
   have hEf:=ExtX.box (hE.trans hE5) r2 (by omega);go_ret
   exact⟨hEf,a0J hf.out.symm⟩
theorem b1B (X:Nat->Bool) (w:World) (v:Int) (hX:HX X w) (h1: -9223372036854775808<=v) (h2:v<=9223372036854775807):Calls Tryz.prog 103 #[.int .i64 v] w (a1Z X w ZC v):=by
 obtain⟨W,hW,hE,b0,hz⟩:=a1t w #[.bool false, .slice none 0 0] 43;have hXW:HX (a0f X w.heap.size 1) W:=hX.boxes hz;obtain⟨b,hb⟩:∃b,w.heap.size=b:=⟨_,rfl⟩;have hbw:w.heap.size<=b:=by omega
 rw[hb]at b0 hz hXW;by_cases hv:v<0
 ·obtain⟨n,hn⟩:∃n:Nat,-(v+1)=n:=Int.eq_ofNat_of_zero_le (by omega)
  have hnn:Hid (sg true (n+1)=v):=hid (by unfold sg;simp;omega);have hvv:Hid (-(v+1)=(n:Int)):=hid hn;have hnl:Hid (n<18446744073709551616):=hid (by omega);have hnI:(n:Int)<=9223372036854775807:=by omega
  clear hn;go_enter Tryz.func103,Tryz.ntmps103
  go_wp2_with fail
  rw[hvv.out];refine(b5E (X:=a0f X b 1) hXW hnl.out).mono ?_;rintro e w5 ⟨hE5,u5,rfl,hu5⟩;have hX5:=hXW.ext hE5;go_wp2_with fail
  have hone:=NC.lit hX5 1 147 (by omega) (by omega);have hE6:Ext w5 (w5.alloc (.cells #[.int .u32 ((1:Nat):Int)] 147)):=(ExtX.refl w5).alloc _;have hl1:lg n<=1099511627776:=by
   have:n<B^2:=by rw[a1l];omega
   have:=a2J.2 this;omega
  refine(b3L (hX5.ext hE6) (mkx NV.mono (hu5.nv hl1) hE6) (hone.nv (by rw[a3s];decide))).mono ?_;rintro e w7 ⟨hE7,u7,rfl,hu7⟩;have hE57:=hE5.trans (hE6.trans hE7);have hX7:=hXW.ext hE57;clear hE5 hE6 hE7 hX5 hone hu5 hl1;go_wp2_with fail
  refine(a1I (a0f X b 1) w7 true u7 _ hX7 hu7).mono ?_;rintro e w8 ⟨hE8,u6,rfl,s6,a6,c6,l6,rfl,h61,h62,h63⟩;rw[hnn.out]at h62;have bb0:=(b0.ext0 hE57).ext0 hE8;go_wp2_with ((with_reducible show wpList _ _ _ (⟨_, .store _ _ _,_,_,_,_⟩::_) _ _);refine a0c a0H rfl rfl bb0 rfl rfl (a2K _ _ _ _) ?_;intro w9 r1 r2)
  have h7:=(h63.mono (a0d.mono _) (a0i r2 (by omega) (by omega))).mono (a0d.mono _) a0l;exact bodyPost_ret (a0e rfl rfl a0H r1 rfl) rfl ⟨ExtX.box (hE.trans (hE57.trans hE8)) r2 (by omega),_,rfl,s6,a6,c6,l6,rfl,h61,h62,h7⟩
 ·obtain⟨n,rfl⟩:=Int.eq_ofNat_of_zero_le (show 0<=v by omega)
  have hn:Hid (sg false n=(n:Int)):=hid rfl;have hlt2:Hid (n<18446744073709551616):=hid (by omega);go_enter Tryz.func103,Tryz.ntmps103
  go_wp2_with fail
  refine(b5E (X:=a0f X b 1) hXW hlt2.out).mono ?_;rintro e w5 ⟨hE5,u5,rfl,hu5⟩;go_wp2_with fail
  refine(a1I (a0f X b 1) w5 false u5 n (hXW.ext hE5) hu5).mono ?_;rintro e w6 ⟨hE6,u6,rfl,s6,a6,c6,l6,rfl,h61,h62,h63⟩;have bb0:=(b0.ext0 hE5).ext0 hE6;go_wp2_with ((with_reducible show wpList _ _ _ (⟨_, .store _ _ _,_,_,_,_⟩::_) _ _);refine a0c a0H rfl rfl bb0 rfl rfl (a2K _ _ _ _) ?_;intro w7 r1 r2)
  have h7:=(h63.mono (a0d.mono _) (a0i r2 (by omega) (by omega))).mono (a0d.mono _) a0l;exact bodyPost_ret (a0e rfl rfl a0H r1 rfl) rfl ⟨ExtX.box (hE.trans (hE5.trans hE6)) r2 (by omega),_,rfl,s6,a6,c6,l6,rfl,h61,h62,h7⟩
theorem b5I (X:Nat->Bool) (w:World) (u v:Value) (x y:Int) (hu:ZC (mk X w) u x) (hv:ZC (mk X w) v y) (hl:lg x.natAbs<=1099511627776):Calls Tryz.prog 93 #[u,v] w (b1A w (decide (x=y))):=by
 obtain⟨s1,a1,c1,l1,rfl,h11,h12,h13⟩:=hu;obtain⟨s2,a2,c2,l2,rfl,h21,h22,h23⟩:=hv;obtain⟨W,hW,hE,b0,b1,hz⟩:=a1v w #[.bool s1, .slice a1 l1.length c1] #[.bool s2, .slice a2 l2.length c2] 43 43;have hn1:NC (mk X W) (.slice a1 l1.length c1) x.natAbs:=⟨a1,c1,l1,rfl,h11,h12.2,h13.mono (a0d.mono _) (a0p hE)⟩;have hn2:NC (mk X W) (.slice a2 l2.length c2) y.natAbs:=⟨a2,c2,l2,rfl,h21,h22.2,h23.mono (a0d.mono _) (a0p hE)⟩;obtain⟨b,hb⟩:∃b,w.heap.size=b:=⟨_,rfl⟩;rw[hb]at b0 b1 hz;have k00:=b0.cell 0 rfl;have k01:=b0.cell 1 rfl;have k10:=b1.cell 0 rfl;have k11:=b1.cell 1 rfl;have hs1:=hid (a3F h12);have hs2:=hid (a3F h22);by_cases hss:s1=s2
 ·subst hss
  have hf:Hid (decide (x=y)=decide (x.natAbs=y.natAbs)):=hid (by
   rw[Bool.eq_iff_iff];simp only[decide_eq_true_eq];constructor
   ·intro h;rw[h]
   ·intro h;rw[<-hs1.out,<-hs2.out,h])
  have hl':=hid hl;clear h12 h22 hl;go_enter Tryz.func93,Tryz.ntmps93
  go_wp2_with fail
  refine(b5G X W _ _ _ _ hn1 hn2 hl'.out).mono ?_;rintro e w5 ⟨rfl,m,rfl⟩;go_wp2_with fail
  go_ret
  exact⟨hE.trans ((ExtX.refl W).drewN m),a0n hf.out.symm⟩
 ·have hf:Hid (decide (x=y)=false):=hid (by
   rw[decide_eq_false_iff_not];intro h;subst h;exact hss (h12.1.trans h22.1.symm))
  have hne:(s1==s2)=false:=by simpa using hss
  clear h12 h22 hl hss;go_enter Tryz.func93,Tryz.ntmps93
  go_wp2_with fail
  go_ret
  exact⟨hE,a0n hf.out.symm⟩
theorem a7W (s:Bool) (a:Option Addr) (n c:Nat) (W:World):(Instr.field 43 (.agg #[.bool s, .slice a n c]) 1).run Tryz.prog W= .ok (.slice a n c) W:=by kernel_rfl
set_option maxRecDepth 100000 in
set_option maxHeartbeats 800000 in
theorem b8J (X:Nat->Bool) (w:World) (u v:Value) (x y:Int) (hX:HX X w) (hu:ZV (mk X w) u x) (hv:ZV (mk X w) v y) (hbx:lg x.natAbs<=274877906944) (hby:lg y.natAbs<=274877906944):Calls Tryz.prog 181 #[u,v] w (a1Z X w NC (Nat.gcd x.natAbs y.natAbs)):=by
 have hbx':=hid hbx;have hby':=hid hby;clear hbx hby;have hlx:=hid hu.lg;have hly:=hid hv.lg;obtain⟨s1,a1,c1,l1,rfl,hu'⟩:=id hu;obtain⟨s2,a2,c2,l2,rfl,hv'⟩:=id hv;obtain⟨W,hW,hE,b0,b1,hz⟩:=a1v w #[.bool s1, .slice a1 l1.length c1] #[.bool s2, .slice a2 l2.length c2] 43 43;have hXW:HX (a0f X w.heap.size 2) W:=hX.boxes hz;have hu1:=ZV.mono _ _ _ _ (a0o (nb:=2) hE) hu;have hv1:=ZV.mono _ _ _ _ (a0o (nb:=2) hE) hv;obtain⟨b,hb⟩:∃b,w.heap.size=b:=⟨_,rfl⟩;have hbw:w.heap.size<=b:=by omega
 rw[hb]at b0 b1 hz hXW hu1 hv1;have hEd:Ext W W.drew:=(ExtX.refl W).drew;have hXd:HX (a0f X b 2) W.drew:=hXW;have hud:ZV (mk (a0f X b 2) W.drew) (.agg #[.bool s1, .slice a1 l1.length c1]) x:=hu1;have hvd:ZV (mk (a0f X b 2) W.drew) (.agg #[.bool s2, .slice a2 l2.length c2]) y:=hv1;have k00:=b0.cell 0 rfl;have k01:=b0.cell 1 rfl;have k10:=b1.cell 0 rfl;have k11:=b1.cell 1 rfl;clear hu hv hu' hv';have hB:=hid (And.intro b0 b1);have hfl:=a7W;go_enter Tryz.func181,Tryz.ntmps181
 go_wp2_with fail
 go_region_with (first|(go_at_call 187;(with_reducible refine(a3G (a0f X b 2) W.drew _ x hXd hud).mono ?_);rintro e w5 ⟨hE5,u5,rfl,s5,a5,c5,l5,rfl,h51,h52,h53⟩;have bb0:=hB.out.1.ext0 (hEd.trans hE5);have bb1:=hB.out.2.ext0 (hEd.trans hE5);have e00:=bb0.cell 0 rfl;have e01:=bb0.cell 1 rfl;have e10:=bb1.cell 0 rfl;have e11:=bb1.cell 1 rfl)|(go_at_call 187;(with_reducible refine(a3G (a0f X b 2) w5 _ y (HX.ext hXd hE5) (mkx ZV.mono hvd hE5)).mono ?_);rintro e w6 ⟨hE6,u6,rfl,s6,a6,c6,l6,rfl,h61,h62,h63⟩;have hX6:=HX.ext (HX.ext hXd hE5) hE6;have hm5:NV (mk (a0f X b 2) w6) (.slice a5 l5.length c5) x.natAbs:=NC.nv ⟨a5,c5,l5,rfl,h51,h52.2,h53.mono (a0d.mono _) (a0p hE6)⟩ (by have:=hbx'.out;omega);have hm6:NV (mk (a0f X b 2) w6) (.slice a6 l6.length c6) y.natAbs:=NC.nv ⟨a6,c6,l6,rfl,h61,h62.2,h63⟩ (by have:=hby'.out;omega))|(go_at_call 248;(with_reducible refine(b8G (a0f X b 2) w6 _ _ _ _ hX6 hm5 hm6 hbx'.out hby'.out).mono ?_);rintro e w7 ⟨hE7,u7,rfl,hu7⟩))
 all_goals
  have hEf:=hE.trans (hEd.trans (hE5.trans (hE6.trans hE7)));clear e00 e01 e10 e11 k00 k01 k10 k11 hfl;go_wp2_with fail
  go_ret
  exact⟨hEf,_,rfl,NC.mono _ _ _ _ a0l hu7⟩
def b9W (X:Nat->Bool) (w:World) (q:Int) (e:Ending) (w':World):Prop:=Ext w w'/\∃u sv av nv cv,e= .returned (.tuple #[u, .agg #[.bool sv, .slice av nv cv], .bool true])/\ZC (mk X w') u q
theorem a5y {P:Program} {w:World} {fn:Func} {tmps:Array Value} {c c2 d:Tmp} {t:TypeId} {n b b':Nat} {cs cs':Array Value} {T T':TypeId} (h:fn.results=#[.cell c t, .cell c2 t, .tmp d]) (hp:tmps.getD c undef= .pointer (some ⟨b,0,none⟩)) (hp2:tmps.getD c2 undef= .pointer (some ⟨b',0,none⟩)) (hT:a1A P t n) (hb:Bx w b cs T) (hcs:cs.size=n) (hb':Bx w b' cs' T') (hcs':cs'.size=n):
  (results fn tmps).run P w= .ok (.tuple #[.agg cs, .agg cs',tmps.getD d undef]) w:=by
 have hl:=a1U (P:=P) hT hb hcs;have hl':=a1U (P:=P) hT hb' hcs';rw[Array.getD_eq_getD_getElem?]at hp hp2;simp[results,h,hp,hp2,asAddr,hl,hl']
set_option maxRecDepth 100000 in
set_option maxHeartbeats 800000 in
theorem b3O (X:Nat->Bool) (w:World) (u v:Value) (x y:Int) (hX:HX X w) (hu:ZV (mk X w) u x) (hv:ZV (mk X w) v y) (hbx:lg x.natAbs<=274877906944) (hby:lg y.natAbs<=274877906944) (h0:0<y) (hd:y∣x):Calls Tryz.prog 182 #[u,v] w (b9W X w (x/y)):=by
 have hbx':=hid hbx;have hby':=hid hby;have hq:Hid (∃k:Int,x=y*k/\x/y=k):=hid (by
  obtain⟨k,rfl⟩:=hd;exact⟨k,rfl,Int.mul_ediv_cancel_left _ (by omega)⟩)
 have h0':=hid h0;clear hbx hby hd h0;have hlx:=hid hu.lg;have hly:=hid hv.lg;obtain⟨s1,a1,c1,l1,rfl,hu'⟩:=id hu;obtain⟨s2,a2,c2,l2,rfl,hv'⟩:=id hv;obtain⟨W,hW,hE,b0,b1,b2,b3,hz⟩:=b8H w #[.bool s1, .slice a1 l1.length c1] #[.bool s2, .slice a2 l2.length c2] #[.bool false, .slice none 0 0] #[.bool false, .slice none 0 0] 43 43 43 43;have hXW:HX (a0f X w.heap.size 4) W:=hX.boxes hz;have hu1:=ZV.mono _ _ _ _ (a0o (nb:=4) hE) hu;have hv1:=ZV.mono _ _ _ _ (a0o (nb:=4) hE) hv;obtain⟨b,hb⟩:∃b,w.heap.size=b:=⟨_,rfl⟩;have hbw:w.heap.size<=b:=by omega
 rw[hb]at b0 b1 b2 b3 hz hXW hu1 hv1;have hEd:Ext W W.drew:=(ExtX.refl W).drew;have hXd:HX (a0f X b 4) W.drew:=hXW;have hud:ZV (mk (a0f X b 4) W.drew) (.agg #[.bool s1, .slice a1 l1.length c1]) x:=hu1;have hvd:ZV (mk (a0f X b 4) W.drew) (.agg #[.bool s2, .slice a2 l2.length c2]) y:=hv1;have k00:=b0.cell 0 rfl;have k01:=b0.cell 1 rfl;have k10:=b1.cell 0 rfl;have k11:=b1.cell 1 rfl;clear hu hv hu' hv';go_enter Tryz.func182,Tryz.ntmps182
 go_upto_region 1 with(fail)
 go_cut []from 10 to 13 (fun wx=>∃s3 a3 c3 l3 s4 a4 c4 l4,Bx wx b #[.bool s3, .slice a3 l3 c3] 43/\Bx wx (b+1) #[.bool s4, .slice a4 l4 c4] 43/\Bx wx (b+1+1) #[.bool false, .slice none 0 0] 43/\Bx wx (b+1+1+1) #[.bool false, .slice none 0 0] 43/\ZC (mk (a0f X b 4) wx) (.agg #[.bool s3, .slice a3 l3 c3]) x/\ZC (mk (a0f X b 4) wx) (.agg #[.bool s4, .slice a4 l4 c4]) y/\Ext w wx)
 case first=>
  go_region_with (first|(go_at_call 187;(with_reducible refine(a3G (a0f X b 4) W.drew _ x hXd hud).mono ?_);rintro e w5 ⟨hE5,u5,rfl,s5,a5,c5,l5,rfl,h51,h52,h53⟩;have bb0:=b0.ext0 (hEd.trans hE5);have bb1:=b1.ext0 (hEd.trans hE5);have e00:=bb0.cell 0 rfl;have e01:=bb0.cell 1 rfl;have e10:=bb1.cell 0 rfl;have e11:=bb1.cell 1 rfl)|(go_at_call 187;(with_reducible refine(a3G (a0f X b 4) w5 _ y (HX.ext hXd hE5) (mkx ZV.mono hvd hE5)).mono ?_);rintro e w6 ⟨hE6,u6,rfl,s6,a6,c6,l6,rfl,h61,h62,h63⟩;have bb2:=bb0.ext0 hE6;have bb3:=bb1.ext0 hE6;have g00:=bb2.cell 0 rfl;have g01:=bb2.cell 1 rfl;have g10:=bb3.cell 0 rfl;have g11:=bb3.cell 1 rfl;have fr0:=bb2.frozen 0;have fr1:=bb2.frozen 1;have fr2:=bb3.frozen 0;have fr3:=bb3.frozen 1))
  all_goals
   obtain⟨wf,hwf,q0,q1,q2,q3,q4⟩:=a2i (X:=X) (nb:=4) bb2 bb3 (hE.trans ((hEd.trans hE5).trans hE6)) hbw (by omega) (.bool s5) (.slice a5 l5.length c5) (.bool s6) (.slice a6 l6.length c6);rw[hwf];have hfx:ZC (mk (a0f X b 4) wf) (.agg #[.bool s5, .slice a5 l5.length c5]) x:=⟨s5,a5,c5,l5,rfl,h51,h52,(h53.mono (a0d.mono _) (a0p hE6)).mono (a0d.mono _) q4⟩;have hfy:ZC (mk (a0f X b 4) wf) (.agg #[.bool s6, .slice a6 l6.length c6]) y:=⟨s6,a6,c6,l6,rfl,h61,h62,h63.mono (a0d.mono _) q4⟩;have q5:=q2 (b+1+1) _ _ (by omega) (by omega) ((b2.ext0 (hEd.trans hE5)).ext0 hE6);have q6:=q2 (b+1+1+1) _ _ (by omega) (by omega) ((b3.ext0 (hEd.trans hE5)).ext0 hE6);clear e00 e01 e10 e11 g00 g01 g10 g11 fr0 fr1 fr2 fr3 k00 k01 k10 k11 hwf;go_wp2_with fail
   go_meet
   exact⟨_,_,_,_,_,_,_,_,q0,q1,q5,q6,hfx,hfy,q3⟩
 case rest=>
  clear k00 k01 k10 k11 b0 b1 b2 b3 hu1 hv1 hud hvd hXd hEd hW;obtain⟨s3,a3,c3,n3,s4,a4,c4,n4,b0,b1,b2,b3,hx,hy,hE1⟩:=hcut;obtain⟨_,_,_,l3,heq,h31,h32,h33⟩:=hx;simp only[Value.agg.injEq,Array.mk.injEq,List.cons.injEq,Value.bool.injEq,Value.slice.injEq,and_true]at heq;obtain⟨rfl,rfl,rfl,rfl⟩:=heq;obtain⟨_,_,_,l4,heq,h41,h42,h43⟩:=hy;simp only[Value.agg.injEq,Array.mk.injEq,List.cons.injEq,Value.bool.injEq,Value.slice.injEq,and_true]at heq;obtain⟨rfl,rfl,rfl,rfl⟩:=heq;have hlz:=hid (a3F h32);have hlw:=hid (a3F h42);have hsx:=hid h32.1;have hsy:=hid h42.1;have hEd:Ext wc wc.drew:=(ExtX.refl wc).drew;have hnx:NV (mk (a0f X b 4) wc) (.slice a3 l3.length c3) x.natAbs:=NC.nv ⟨a3,c3,l3,rfl,h31,h32.2,h33⟩ (by have:=hlx.out;omega);have hny:NV (mk (a0f X b 4) wc) (.slice a4 l4.length c4) y.natAbs:=NC.nv ⟨a4,c4,l4,rfl,h41,h42.2,h43⟩ (by have:=hly.out;omega);have hzz:w.heap.size+4<=wc.heap.size:=by have:=b3.lt;omega
  have hXc:HX (a0f X b 4) wc:=hX.boxes' hE1 (by omega) hzz;have k00:=b0.cell 0 rfl;have k01:=b0.cell 1 rfl;have k10:=b1.cell 0 rfl;have k11:=b1.cell 1 rfl;have hy0:Hid (0<y.natAbs):=hid (by have:=h0'.out;omega);have hmod:Hid (x.natAbs%y.natAbs=0):=hid (by
   obtain⟨k,hk,_⟩:=hq.out;rw[hk,Int.natAbs_mul];exact Nat.mul_mod_right _ _)
  obtain rfl:s4=false:=by rw[hsy.out];exact decide_eq_false (by have:=h0'.out;omega)
  have hfin:Hid (sg s3 (x.natAbs/y.natAbs)=x/y):=hid (by
   obtain⟨k,hk,hk2⟩:=hq.out;have h0:=h0'.out;have e1:=hlz.out;rw[hk2];have hdv:x.natAbs/y.natAbs=k.natAbs:=by rw[hk,Int.natAbs_mul];exact Nat.mul_div_cancel_left _ hy0.out
   rw[hdv,hsx.out];have hs:(x<0)=(k<0):=by
    rw[hk];exact propext ⟨fun h=>by
     by_cases hk0:k<0
     ·exact hk0
     ·have:=Int.mul_nonneg (show 0<=y by omega) (show 0<=k by omega);omega,fun h=>Int.mul_neg_of_pos_of_neg h0 h⟩
   unfold sg;simp only[hs];by_cases hk0:k<0
   ·simp only[hk0,decide_true,if_true];omega
   ·simp only[hk0,decide_false,Bool.false_eq_true,if_false];omega)
  clear hsx hsy hlz hlw h32 h42 hEd;go_wp2_with fail
  refine(b8F (a0f X b 4) wc _ _ _ _ hXc hnx hny hbx'.out hby'.out hy0.out).mono ?_;rintro e w5 ⟨hE5,qu,ru,rfl,hqu,hru⟩;rw[hmod.out]at hru;obtain⟨a5,c5,l5,rfl,h51,h52,h53⟩:=hru;obtain rfl:l5= []:=List.eq_nil_of_length_eq_zero ((a1k h52).2 rfl);have hX5:=hXc.ext hE5;have bb0:=b0.ext0 hE5;have bb1:=b1.ext0 hE5;have bb2:=b2.ext0 hE5;have bb3:=b3.ext0 hE5;clear k00 k01 k10 k11;have k00:=bb0.cell 0 rfl;have k01:=bb0.cell 1 rfl;have k10:=bb1.cell 0 rfl;have k11:=bb1.cell 1 rfl;simp only[List.length_nil];cases s3
  ·
   go_wp2_with fail
   refine(a1I (a0f X b 4) w5 false qu _ hX5 hqu).mono ?_;rintro e w6 ⟨hE6,u6,rfl,s6,a6,c6,l6,rfl,h61,h62,h63⟩;rw[hfin.out]at h62;go_wp2_with fail
   refine(a1I (a0f X b 4) w6 false _ 0 (hX5.ext hE6) (mkx NC.mono ⟨a5,c5,[],rfl,h51,h52,h53⟩ hE6)).mono ?_;rintro e w7 ⟨hE7,u7,rfl,s7,a7,c7,l7,rfl,h71,h72,h73⟩;have d2:=(bb2.ext0 hE6).ext0 hE7;have d3:=(bb3.ext0 hE6).ext0 hE7;have hs7:=h63.mono (a0d.mono _) (a0p hE7);have hE57:=hE1.trans (hE5.trans (hE6.trans hE7));clear k00 k01 k10 k11 h72 h73 h71;go_wp2_with ((with_reducible show wpList _ _ _ (⟨_, .store _ _ _,_,_,_,_⟩::_) _ _);first|(refine a0c a0H rfl rfl d2 rfl rfl (a2K _ _ _ _) ?_;intro w8 r1 r2;have d3':=d3.ext r2 (a0b (by omega)))|(refine a0c a0H rfl rfl d3' rfl rfl (a2K _ _ _ _) ?_;intro w9 r3 r4))
   have r5:=r1.ext r4 (a0b (by omega));have h8:=((hs7.mono (a0d.mono _) (a0i r2 (by omega) (by omega))).mono (a0d.mono _) (a0i r4 (by omega) (by omega))).mono (a0d.mono _) a0l;exact bodyPost_ret (a5y rfl rfl rfl a0H r5 rfl r3 rfl) rfl ⟨ExtX.box (ExtX.box hE57 r2 (by omega)) r4 (by omega),_,_,_,_,_,rfl,s6,a6,c6,l6,rfl,h61,h62,h8⟩
  ·
   go_wp2_with fail
   refine(a1I (a0f X b 4) w5 true qu _ hX5 hqu).mono ?_;rintro e w6 ⟨hE6,u6,rfl,s6,a6,c6,l6,rfl,h61,h62,h63⟩;rw[hfin.out]at h62;go_wp2_with fail
   refine(a1I (a0f X b 4) w6 false _ 0 (hX5.ext hE6) (mkx NC.mono ⟨a5,c5,[],rfl,h51,h52,h53⟩ hE6)).mono ?_;rintro e w7 ⟨hE7,u7,rfl,s7,a7,c7,l7,rfl,h71,h72,h73⟩;have d2:=(bb2.ext0 hE6).ext0 hE7;have d3:=(bb3.ext0 hE6).ext0 hE7;have hs7:=h63.mono (a0d.mono _) (a0p hE7);have hE57:=hE1.trans (hE5.trans (hE6.trans hE7));clear k00 k01 k10 k11 h72 h73 h71;go_wp2_with ((with_reducible show wpList _ _ _ (⟨_, .store _ _ _,_,_,_,_⟩::_) _ _);first|(refine a0c a0H rfl rfl d2 rfl rfl (a2K _ _ _ _) ?_;intro w8 r1 r2;have d3':=d3.ext r2 (a0b (by omega)))|(refine a0c a0H rfl rfl d3' rfl rfl (a2K _ _ _ _) ?_;intro w9 r3 r4))
   have r5:=r1.ext r4 (a0b (by omega));have h8:=((hs7.mono (a0d.mono _) (a0i r2 (by omega) (by omega))).mono (a0d.mono _) (a0i r4 (by omega) (by omega))).mono (a0d.mono _) a0l;exact bodyPost_ret (a5y rfl rfl rfl a0H r5 rfl r3 rfl) rfl ⟨ExtX.box (ExtX.box hE57 r2 (by omega)) r4 (by omega),_,_,_,_,_,rfl,s6,a6,c6,l6,rfl,h61,h62,h8⟩
end Go.Proofs.YtidbbddagfnfbaaGreat
namespace Go.Lim
def b5J (a b:Int):Int:=if a<b then -1 else if b<a then 1 else 0
theorem b6K (x y:Int):(x.sign<y.sign->b5J x y= -1)/\(y.sign<x.sign->b5J x y=1)/\(x.sign=y.sign->x.sign*a2R x.natAbs y.natAbs=b5J x y):=by
 have hs:∀z:Int,(z<0/\z.sign= -1)\/(z=0/\z.sign=0)\/(0<z/\z.sign=1):=fun z=>by
  rcases Int.lt_trichotomy z 0 with h|h|h
  ·exact .inl ⟨h,Int.sign_eq_neg_one_of_neg h⟩
  ·subst h;exact .inr (.inl ⟨rfl,rfl⟩)
  ·exact .inr (.inr ⟨h,Int.sign_eq_one_of_pos h⟩)
 unfold b5J a2R;rcases hs x with⟨h1,e1⟩|⟨h1,e1⟩|⟨h1,e1⟩<;>rcases hs y with⟨h2,e2⟩|⟨h2,e2⟩|⟨h2,e2⟩<;>rw[e1,e2]
 all_goals refine⟨fun h=>?_,fun h=>?_,fun h=>?_⟩
 all_goals first
  |omega
  |(repeat' split)<;>omega
end Go.Lim
namespace Go.Proofs.YtidbbddagfnfbaaGreat
open Go.RowKit Go.Rep Go.Lim
theorem b9X (X:Nat->Bool) (w:World) (v:Int) (hX:HX X w) (h1: -9223372036854775808<=v) (h2:v<=9223372036854775807):Calls Tryz.prog 174 #[.int .i64 v] w (a1Z X w ZC v):=by
 obtain⟨W,hW,hE,b0,hz⟩:=a1t w #[.bool false, .slice none 0 0] 43;have hXW:HX (a0f X w.heap.size 1) W:=hX.boxes hz;obtain⟨b,hb⟩:∃b,w.heap.size=b:=⟨_,rfl⟩;have hbw:w.heap.size<=b:=by omega
 rw[hb]at b0 hz hXW;have hlt:Hid (v.natAbs<18446744073709551616):=hid (by omega);by_cases hv:v<0
 ·have hn:Hid (sg true v.natAbs=v):=hid (by unfold sg;simp;omega)
  have hvv:Hid (IntKind.u64.wrap (-(IntKind.u64.wrap v))=(v.natAbs:Int)):=hid (by rw[IntKind.wrap_u64,IntKind.wrap_u64];omega);go_enter Tryz.func174,Tryz.ntmps174
  go_wp2_with fail
  rw[hvv.out];refine(b8E (X:=a0f X b 1) hXW hlt.out).mono ?_;rintro e w5 ⟨hE5,u5,rfl,hu5⟩;go_wp2_with fail
  refine(a2D (a0f X b 1) w5 true u5 _ (hXW.ext hE5) hu5).mono ?_;rintro e w6 ⟨hE6,u6,rfl,s6,a6,c6,l6,rfl,h61,h62,h63⟩;rw[hn.out]at h62;have bb0:=(b0.ext0 hE5).ext0 hE6;go_wp2_with ((with_reducible show wpList _ _ _ (⟨_, .store _ _ _,_,_,_,_⟩::_) _ _);refine a0c a0H rfl rfl bb0 rfl rfl (a2K _ _ _ _) ?_;intro w7 r1 r2)
  have h7:=(h63.mono (a0d.mono _) (a0i r2 (by omega) (by omega))).mono (a0d.mono _) a0l;exact bodyPost_ret (a0e rfl rfl a0H r1 rfl) rfl ⟨ExtX.box (hE.trans (hE5.trans hE6)) r2 (by omega),_,rfl,s6,a6,c6,l6,rfl,h61,h62,h7⟩
 ·obtain⟨n,rfl⟩:=Int.eq_ofNat_of_zero_le (show 0<=v by omega)
  have hn:Hid (sg false n=(n:Int)):=hid rfl;have hlt2:Hid (n<18446744073709551616):=hid (by omega);go_enter Tryz.func174,Tryz.ntmps174
  go_wp2_with fail
  refine(b8E (X:=a0f X b 1) hXW hlt2.out).mono ?_;rintro e w5 ⟨hE5,u5,rfl,hu5⟩;go_wp2_with fail
  refine(a2D (a0f X b 1) w5 false u5 n (hXW.ext hE5) hu5).mono ?_;rintro e w6 ⟨hE6,u6,rfl,s6,a6,c6,l6,rfl,h61,h62,h63⟩;have bb0:=(b0.ext0 hE5).ext0 hE6;go_wp2_with ((with_reducible show wpList _ _ _ (⟨_, .store _ _ _,_,_,_,_⟩::_) _ _);refine a0c a0H rfl rfl bb0 rfl rfl (a2K _ _ _ _) ?_;intro w7 r1 r2)
  have h7:=(h63.mono (a0d.mono _) (a0i r2 (by omega) (by omega))).mono (a0d.mono _) a0l;exact bodyPost_ret (a0e rfl rfl a0H r1 rfl) rfl ⟨ExtX.box (hE.trans (hE5.trans hE6)) r2 (by omega),_,rfl,s6,a6,c6,l6,rfl,h61,h62,h7⟩
set_option maxRecDepth 100000 in
set_option maxHeartbeats 800000 in
theorem b3P (X:Nat->Bool) (w:World) (u v:Value) (x y:Int) (hX:HX X w) (hu:ZV (mk X w) u x) (hv:ZV (mk X w) v y):Calls Tryz.prog 161 #[u,v] w (a4j w (b5J x y)):=by
 have hlx:=hid hu.lg;have hly:=hid hv.lg;obtain⟨s1,a1,c1,l1,rfl,hu'⟩:=id hu;obtain⟨s2,a2,c2,l2,rfl,hv'⟩:=id hv;obtain⟨W,hW,hE,b0,b1,hz⟩:=a1v w #[.bool s1, .slice a1 l1.length c1] #[.bool s2, .slice a2 l2.length c2] 43 43;have hXW:HX (a0f X w.heap.size 2) W:=hX.boxes hz;have hu1:=ZV.mono _ _ _ _ (a0o (nb:=2) hE) hu;have hv1:=ZV.mono _ _ _ _ (a0o (nb:=2) hE) hv;obtain⟨b,hb⟩:∃b,w.heap.size=b:=⟨_,rfl⟩;have hbw:w.heap.size<=b:=by omega
 rw[hb]at b0 b1 hz hXW hu1 hv1;have hEd:Ext W W.drew:=(ExtX.refl W).drew;have hXd:HX (a0f X b 2) W.drew:=hXW;have hud:ZV (mk (a0f X b 2) W.drew) (.agg #[.bool s1, .slice a1 l1.length c1]) x:=hu1;have hvd:ZV (mk (a0f X b 2) W.drew) (.agg #[.bool s2, .slice a2 l2.length c2]) y:=hv1;have k00:=b0.cell 0 rfl;have k01:=b0.cell 1 rfl;have k10:=b1.cell 0 rfl;have k11:=b1.cell 1 rfl;clear hu hv hu' hv';go_enter Tryz.func161,Tryz.ntmps161
 go_upto_region 1 with(fail)
 go_cut []from 7 to 10 (fun wx=>∃s3 a3 c3 l3 s4 a4 c4 l4,Bx wx b #[.bool s3, .slice a3 l3 c3] 43/\Bx wx (b+1) #[.bool s4, .slice a4 l4 c4] 43/\ZC (mk (a0f X b 2) wx) (.agg #[.bool s3, .slice a3 l3 c3]) x/\ZC (mk (a0f X b 2) wx) (.agg #[.bool s4, .slice a4 l4 c4]) y/\Ext w wx)
 case first=>
  go_region_with (first|(go_at_call 230;(with_reducible refine(a5x (a0f X b 2) W.drew _ x hXd hud).mono ?_);rintro e w5 ⟨hE5,u5,rfl,s5,a5,c5,l5,rfl,h51,h52,h53⟩;have bb0:=b0.ext0 (hEd.trans hE5);have bb1:=b1.ext0 (hEd.trans hE5);have e00:=bb0.cell 0 rfl;have e01:=bb0.cell 1 rfl;have e10:=bb1.cell 0 rfl;have e11:=bb1.cell 1 rfl)|(go_at_call 230;(with_reducible refine(a5x (a0f X b 2) w5 _ y (HX.ext hXd hE5) (mkx ZV.mono hvd hE5)).mono ?_);rintro e w6 ⟨hE6,u6,rfl,s6,a6,c6,l6,rfl,h61,h62,h63⟩;have bb2:=bb0.ext0 hE6;have bb3:=bb1.ext0 hE6;have g00:=bb2.cell 0 rfl;have g01:=bb2.cell 1 rfl;have g10:=bb3.cell 0 rfl;have g11:=bb3.cell 1 rfl;have fr0:=bb2.frozen 0;have fr1:=bb2.frozen 1;have fr2:=bb3.frozen 0;have fr3:=bb3.frozen 1))
  all_goals
   obtain⟨wf,hwf,q0,q1,q2,q3,q4⟩:=a2i (X:=X) (nb:=2) bb2 bb3 (hE.trans ((hEd.trans hE5).trans hE6)) hbw (by omega) (.bool s5) (.slice a5 l5.length c5) (.bool s6) (.slice a6 l6.length c6);rw[hwf];have hfx:ZC (mk (a0f X b 2) wf) (.agg #[.bool s5, .slice a5 l5.length c5]) x:=⟨s5,a5,c5,l5,rfl,h51,h52,(h53.mono (a0d.mono _) (a0p hE6)).mono (a0d.mono _) q4⟩;have hfy:ZC (mk (a0f X b 2) wf) (.agg #[.bool s6, .slice a6 l6.length c6]) y:=⟨s6,a6,c6,l6,rfl,h61,h62,h63.mono (a0d.mono _) q4⟩;clear e00 e01 e10 e11 g00 g01 g10 g11 fr0 fr1 fr2 fr3 k00 k01 k10 k11 hwf;go_wp2_with fail
   go_meet
   exact⟨_,_,_,_,_,_,_,_,q0,q1,hfx,hfy,q3⟩
 case rest=>
  clear k00 k01 k10 k11 b0 b1 hu1 hv1 hud hvd hXd hEd hW;obtain⟨s3,a3,c3,n3,s4,a4,c4,n4,b0,b1,hx,hy,hE1⟩:=hcut;have hzx:=hx.zv hlx.out;have hzy:=hy.zv hly.out;obtain⟨_,_,_,l3,heq,h31,h32,h33⟩:=hx;simp only[Value.agg.injEq,Array.mk.injEq,List.cons.injEq,Value.bool.injEq,Value.slice.injEq,and_true]at heq;obtain⟨rfl,rfl,rfl,rfl⟩:=heq;obtain⟨_,_,_,l4,heq,h41,h42,h43⟩:=hy;simp only[Value.agg.injEq,Array.mk.injEq,List.cons.injEq,Value.bool.injEq,Value.slice.injEq,and_true]at heq;obtain⟨rfl,rfl,rfl,rfl⟩:=heq;have hlz:=hid (a3F h32);have hlw:=hid (a3F h42);have hsx:=hid h32.1;have hsy:=hid h42.1;have hEd:Ext wc wc.drew:=(ExtX.refl wc).drew;have hnx:NV (mk (a0f X b 2) wc) (.slice a3 l3.length c3) x.natAbs:=NC.nv ⟨a3,c3,l3,rfl,h31,h32.2,h33⟩ (by have:=hlx.out;omega);have hny:NV (mk (a0f X b 2) wc) (.slice a4 l4.length c4) y.natAbs:=NC.nv ⟨a4,c4,l4,rfl,h41,h42.2,h43⟩ (by have:=hly.out;omega);have hzz:w.heap.size+2<=wc.heap.size:=by have:=b1.lt;omega
  have hXc:HX (a0f X b 2) wc:=hX.boxes' hE1 (by omega) hzz;have hB:=hid (And.intro b0 b1);have k00:=b0.cell 0 rfl;have k01:=b0.cell 1 rfl;have k10:=b1.cell 0 rfl;have k11:=b1.cell 1 rfl;have hcm:=hid (b6K x y);have hsg:Hid (∀z:Int,z.sign= -1\/z.sign=0\/z.sign=1):=hid (fun z=>by
   rcases Int.lt_trichotomy z 0 with h|h|h
   ·exact .inl (Int.sign_eq_neg_one_of_neg h)
   ·subst h;exact .inr (.inl rfl)
   ·exact .inr (.inr (Int.sign_eq_one_of_pos h)))
  clear hsx hsy hlz hlw h32 h42;have hXd:HX (a0f X b 2) wc.drew:=hXc;have hzxd:ZV (mk (a0f X b 2) wc.drew) (.agg #[.bool s3, .slice a3 l3.length c3]) x:=hzx;have hzyd:ZV (mk (a0f X b 2) wc.drew) (.agg #[.bool s4, .slice a4 l4.length c4]) y:=hzy;go_wp2_with fail
  go_region_held3 (fun w'=>w'.cell? ⟨b,0,none⟩=some (.bool s3)/\w'.cell? ⟨b,1,none⟩=some (.slice a3 l3.length c3)/\w'.cell? ⟨b+1,0,none⟩=some (.bool s4)/\w'.cell? ⟨b+1,1,none⟩=some (.slice a4 l4.length c4))
   (first|exact⟨(hB.out.1.ext0 (hEd.trans hE5)).cell 0 rfl,(hB.out.1.ext0 (hEd.trans hE5)).cell 1 rfl,(hB.out.2.ext0 (hEd.trans hE5)).cell 0 rfl,(hB.out.2.ext0 (hEd.trans hE5)).cell 1 rfl⟩|exact⟨(hB.out.1.ext0 (hEd.trans (hE5.trans hE6))).cell 0 rfl,(hB.out.1.ext0 (hEd.trans (hE5.trans hE6))).cell 1 rfl,(hB.out.2.ext0 (hEd.trans (hE5.trans hE6))).cell 0 rfl,(hB.out.2.ext0 (hEd.trans (hE5.trans hE6))).cell 1 rfl⟩|go_keep)
   (first|(go_at_call 207;(with_reducible refine(b0C (a0f X b 2) wc.drew _ x hXd hzxd).mono ?_);rintro e w5 ⟨hE5,rfl⟩)|(go_at_call 207;(with_reducible refine(b0C (a0f X b 2) w5 _ y (HX.ext hXd hE5) (mkx ZV.mono hzyd hE5)).mono ?_);rintro e w6 ⟨hE6,rfl⟩))
  have hE6':Ext wc w6:=hEd.trans (hE5.trans hE6);have q0:=hB.out.1.ext0 hE6';have q1:=hB.out.2.ext0 hE6';have hnx6:=mkx NV.mono hnx hE6';have hny6:=mkx NV.mono hny hE6';have hEf:=hE1.trans hE6';clear k00 k01 k10 k11 hE5 hE6 hEd hXd hzxd hzyd hzx hzy hnx hny;have k00:=q0.cell 0 rfl;have k01:=q0.cell 1 rfl;have k10:=q1.cell 0 rfl;have k11:=q1.cell 1 rfl;have hx3:=hsg.out x;have hy3:=hsg.out y;have hxs:=hid (show x.sign=x.sign from rfl);generalize hsx:x.sign=sx at*;generalize hsy:y.sign=sy at*;clear hxs hsx hsy;have hbx: -1<=sx/\sx<=1:=by omega
  have hby: -1<=sy/\sy<=1:=by omega
  clear hx3 hy3;by_cases h1:sx<sy
  ·have hf:=hid (hcm.out.1 h1)
   go_wp2_with fail
   go_ret
   exact⟨hEf,a0J hf.out.symm⟩
  ·by_cases h2:sy<sx
   ·have hf:=hid (hcm.out.2.1 h2)
    go_wp2_with fail
    go_ret
    exact⟨hEf,a0J hf.out.symm⟩
   ·have hf:=hid (hcm.out.2.2 (by omega))
    go_wp2_with fail
    refine(b9N hnx6 hny6).mono ?_;rintro e w7 ⟨hE7,rfl⟩;have hcb: -1<=a2R x.natAbs y.natAbs/\a2R x.natAbs y.natAbs<=1:=by unfold a2R;split<;>(try split)<;>omega
    generalize a2R x.natAbs y.natAbs=cm at*;have hpb: -1<=sx*cm/\sx*cm<=1:=by
     rcases(by omega:sx= -1\/sx=0\/sx=1)with rfl|rfl|rfl<;>omega
    have hw1:IntKind.i64.wrap (sx*cm)=sx*cm:=IntWalk.i64_in _ (by omega);clear k00 k01 k10 k11;go_wp2_with fail
    go_ret
    exact⟨hEf.trans hE7,a0J hf.out⟩
end Go.Proofs.YtidbbddagfnfbaaGreat
namespace Go.Rep
open Go.RowKit Go.Lim
def QV (h:Mem) (u:Value) (q:Rat):Prop:=∃s ao c m bo e d,u= .agg #[.bool s, .slice ao m.length c, .slice bo d.length e]/\m.length<=c/\d.length<=e/\Dig m/\Dig d/\m.length<=68719476736/\d.length<=68719476736/\Sl (a0d .u32) 1 h ao m/\Sl (a0d .u32) 1 h bo d/\b3v s m d=q
def QC (h:Mem) (u:Value) (q:Rat):Prop:=∃s ao c m bo e d,u= .agg #[.bool s, .slice ao m.length c, .slice bo d.length e]/\m.length<=c/\d.length<=e/\a5K s m d q/\Sl (a0d .u32) 1 h ao m/\Sl (a0d .u32) 1 h bo d
theorem QV.mono:a3v QV:=by rintro h h' u x hl ⟨s,ao,c,m,bo,e,d,rfl,h1,h2,h3,h4,h5,h6,h7,h8,h9⟩;exact⟨s,ao,c,m,bo,e,d,rfl,h1,h2,h3,h4,h5,h6,h7.mono (a0d.mono _) hl,h8.mono (a0d.mono _) hl,h9⟩
theorem QC.mono:a3v QC:=by rintro h h' u x hl ⟨s,ao,c,m,bo,e,d,rfl,h1,h2,h3,h7,h8⟩;exact⟨s,ao,c,m,bo,e,d,rfl,h1,h2,h3,h7.mono (a0d.mono _) hl,h8.mono (a0d.mono _) hl⟩
theorem b1C (q:Rat):lg (dn q)<=hq q:=b8A q
theorem QC.qv {h:Mem} {u:Value} {q:Rat} (hu:QC h u q) (hn:hq q<=68719476736):QV h u q:=by
 obtain⟨s,ao,c,m,bo,e,d,rfl,h1,h2,h3,h7,h8⟩:=hu;have a1:=a0A q;have a2:=b1C q;exact⟨s,ao,c,m,bo,e,d,rfl,h1,h2,h3.1.2.1,h3.2.1,by rw[h3.1.len];omega,by rw[h3.2.len];omega,h7,h8,h3.val⟩
theorem QC.zero (h:Mem):QC h (.agg #[.bool false, .slice none 0 0, .slice none 0 0]) 0:=⟨false,none,0,[],none,0,[],rfl,Nat.le_refl _,Nat.le_refl _,a5K.zero,Sl.nil _ _ _ _,Sl.nil _ _ _ _⟩
theorem QV.hq {h:Mem} {u:Value} {q:Rat} (hu:QV h u q):hq q<=68719476736:=by
 obtain⟨s,ao,c,m,bo,e,d,rfl,h1,h2,h3,h4,h5,h6,h7,h8,rfl⟩:=hu;exact b6E s m d _ h3 h4 h5 h6 (by omega)
theorem QV.elem:Elem QV 3:=⟨QV.mono,by rintro h u x ⟨s,ao,c,m,bo,e,d,rfl,_⟩;rfl,by
 rintro h u x ⟨s,ao,c,m,bo,e,d,rfl,_⟩ v hv;simp[a0j,Value.cells]at hv;rcases hv with rfl|rfl|rfl<;>rfl,by decide⟩
theorem QC.elem:Elem QC 3:=⟨QC.mono,by rintro h u x ⟨s,ao,c,m,bo,e,d,rfl,_⟩;rfl,by
 rintro h u x ⟨s,ao,c,m,bo,e,d,rfl,_⟩ v hv;simp[a0j,Value.cells]at hv;rcases hv with rfl|rfl|rfl<;>rfl,by decide⟩
theorem QC.num {h:Mem} {s:Bool} {ao bo:Option Addr} {n c k e:Nat} {q:Rat} (hu:QC h (.agg #[.bool s, .slice ao n c, .slice bo k e]) q):ZC h (.agg #[.bool s, .slice ao n c]) q.num/\NC h (.slice ao n c) q.num.natAbs/\NC h (.slice bo k e) (dn q):=by
 obtain⟨_,_,_,m,_,_,d,heq,h1,h2,h3,h7,h8⟩:=hu;simp only[Value.agg.injEq,Array.mk.injEq,List.cons.injEq,Value.bool.injEq,Value.slice.injEq,and_true]at heq;obtain⟨rfl,⟨rfl,rfl,rfl⟩,rfl,rfl,rfl⟩:=heq;exact⟨⟨_,_,_,_,rfl,h1,h3.1,h7⟩,⟨_,_,_,rfl,h1,h3.1.2,h7⟩,⟨_,_,_,rfl,h2,h3.2,h8⟩⟩
theorem QC.shape {h:Mem} {u:Value} {q:Rat} (hu:QC h u q):∃s ao n c bo k e,u= .agg #[.bool s, .slice ao n c, .slice bo k e]:=by
 obtain⟨s,ao,c,m,bo,e,d,rfl,_⟩:=hu;exact⟨_,_,_,_,_,_,_,rfl⟩
theorem QV.shape {h:Mem} {u:Value} {q:Rat} (hu:QV h u q):∃s ao n c bo k e,u= .agg #[.bool s, .slice ao n c, .slice bo k e]:=by
 obtain⟨s,ao,c,m,bo,e,d,rfl,_⟩:=hu;exact⟨_,_,_,_,_,_,_,rfl⟩
theorem QC.of {h:Mem} {s:Bool} {ao bo:Option Addr} {n c k e:Nat} {q:Rat} (h1:ZC h (.agg #[.bool s, .slice ao n c]) q.num) (h2:NC h (.slice bo k e) (dn q)):QC h (.agg #[.bool s, .slice ao n c, .slice bo k e]) q:=by
 obtain⟨_,_,_,m,heq,a1,a2,a3⟩:=h1;simp only[Value.agg.injEq,Array.mk.injEq,List.cons.injEq,Value.bool.injEq,Value.slice.injEq,and_true]at heq;obtain⟨rfl,rfl,rfl,rfl⟩:=heq;obtain⟨_,_,d,heq,b1,b2,b3⟩:=h2;simp only[Value.slice.injEq]at heq;obtain⟨rfl,rfl,rfl⟩:=heq;exact⟨_,_,_,_,_,_,_,rfl,a1,b1,⟨a2,b2⟩,a3,b3⟩
theorem NC.len0 {h:Mem} {ao:Option Addr} {n c k:Nat} (hu:NC h (.slice ao n c) k):n=0↔k=0:=by
 obtain⟨_,_,d,heq,b1,b2,b3⟩:=hu;simp only[Value.slice.injEq]at heq;obtain⟨rfl,rfl,rfl⟩:=heq;exact a1k b2
theorem a3H (q:Rat):dn q=0↔q.den=1:=by
 unfold dn;split
 ·simp[*]
 ·have:=q.den_nz;omega
end Go.Rep
namespace Go.Proofs.YtidbbddagfnfbaaGreat
open Go.RowKit Go.Rep Go.Lim
theorem a0u:a1A Tryz.prog 45 3:=by
 have h:(Tryz.prog.info? 45).map (fun i=>(i.zero,i.size,i.bytes))=some (some (.agg #[.bool false, .slice none 0 0, .slice none 0 0]),3,56):=by kernel_rfl
 obtain⟨ti,h1,_,h2,_⟩:=info_parts h;exact⟨_,ti,Tryz.underlying45,h1,h2⟩
theorem a2g (s:Bool) (ao bo:Option Addr) (n c k e:Nat):∀v∈(#[Value.bool s, .slice ao n c, .slice bo k e]:Array Value).toList,v.oneCell'=true:=by
 intro v hv;simp at hv;rcases hv with rfl|rfl|rfl<;>rfl
theorem b9P (X:Nat->Bool) (w:World) (hX:HX X w):Calls Tryz.prog 231 #[] w (a1Z X w NC 1):=by
 have h:=NC.lit hX 1 147 (by omega) (by omega);have hE:Ext w (w.alloc (.cells #[.int .u32 ((1:Nat):Int)] 147)):=(ExtX.refl w).alloc _;go_enter Tryz.func231,Tryz.ntmps231
 go_wp2_with fail
 go_ret
 exact⟨hE,_,rfl,h⟩
theorem a8L (X:Nat->Bool) (w:World) (u:Value) (q:Rat) (hX:HX X w) (hu:QC (mk X w) u q):Calls Tryz.prog 163 #[u] w (a1Z X w NC q.den):=by
 obtain⟨s,ao,n,c,bo,k,e,rfl⟩:=hu.shape;obtain⟨W,hW,hE,b0,hz⟩:=a1t w #[.bool s, .slice ao n c, .slice bo k e] 45;have hXW:HX X W:=hX.ext hE;have hd:=mkx NC.mono hu.num.2.2 hE;have hl:=hd.len0;rw[a3H]at hl;obtain⟨b,hb⟩:∃b,w.heap.size=b:=⟨_,rfl⟩;rw[hb]at b0 hz;have k02:=b0.cell 2 rfl;by_cases h0:k=0
 ·have hf:=hid (hl.1 h0)
  subst h0;clear hl hd;go_enter Tryz.func163,Tryz.ntmps163
  go_wp2_with fail
  refine(b9P X W hXW).mono ?_;rintro e w5 ⟨hE5,u5,rfl,hu5⟩;go_wp2_with fail
  go_ret
  exact⟨hE.trans hE5,_,rfl,by rw[hf.out];exact hu5⟩
 ·have hf:Hid (dn q=q.den):=hid (by unfold dn;rw[if_neg (fun h=>h0 (hl.2 h))])
  have hI:((k:Int)==0)=false:=a2I (by omega);clear hl h0;go_enter Tryz.func163,Tryz.ntmps163
  go_wp2_with fail
  go_ret
  exact⟨hE,_,rfl,by rw[<-hf.out];exact hd⟩
end Go.Proofs.YtidbbddagfnfbaaGreat
namespace Go.Rep
open Go.RowKit Go.Lim
theorem QV.agg:∀h u y,QV h u y->∃cs,u= .agg cs:=by rintro h u x ⟨s,ao,c,m,bo,e,d,rfl,_⟩;exact⟨_,rfl⟩
theorem QC.agg:∀h u y,QC h u y->∃cs,u= .agg cs:=by rintro h u x ⟨s,ao,c,m,bo,e,d,rfl,_⟩;exact⟨_,rfl⟩
def a9O (R:Mem->Value->Rat->Prop):Prop:=∀h u q,R h u q->∃s ao n c bo k e,u= .agg #[.bool s, .slice ao n c, .slice bo k e]
theorem QC.shaped:a9O QC:=fun _ _ _ h=>h.shape
theorem QV.shaped:a9O QV:=fun _ _ _ h=>h.shape
theorem Sl.rat {R:Mem->Value->Rat->Prop} (hR:a9O R) {X:Nat->Bool} {w:World} {ao:Option Addr} {l:List Rat} (s:Sl R 3 (mk X w) ao l) (i:Nat) (hi:i<l.length):
  ∃g o sg a n c d k e,adr ao (i*3)=⟨g,o,none⟩/\X g=false/\Hid (∀Y W',ExtX Y w W'->Y g=false->W'.cell? ⟨g,o,none⟩=some (.bool sg)/\W'.cell? ⟨g,o+1,none⟩=some (.slice a n c)/\W'.cell? ⟨g,o+2,none⟩=some (.slice d k e))/\R (mk X w) (.agg #[.bool sg, .slice a n c, .slice d k e]) l[i]:=by
 obtain⟨u,h1,h2,h3⟩:=s.2 i hi;obtain⟨sg,a,n,c,d,k,e,rfl⟩:=hR _ _ _ h3;have c0:=h2 0 (by simp[Value.cells]);have c1:=h2 1 (by simp[Value.cells]);have c2:=h2 2 (by simp[Value.cells]);refine⟨(adr ao (i*3)).block,(adr ao (i*3)).off,sg,a,n,c,d,k,e,rfl,?_,hid fun Y W' hE hY=>⟨?_,?_,?_⟩,h3⟩
 ·cases hx:X (adr ao (i*3)).block
  ·rfl
  ·have c9:mk X w (adr ao (i*3))=some (.bool sg):=c0
   simp[mk,hx]at c9
 ·exact hE.cellY (a1e c0) hY
 ·exact hE.cellY (a1e c1) hY
 ·exact hE.cellY (a1e c2) hY
abbrev RC:Mem->Value->List Rat->Prop:=SlV QC 3
abbrev RV:Mem->Value->List Rat->Prop:=SlV QV 3
abbrev MC:Mem->Value->List (List Rat)->Prop:=SlV RC 1
abbrev MV:Mem->Value->List (List Rat)->Prop:=SlV RV 1
theorem RC.mono:a3v RC:=SlV.mono QC.mono 3
theorem RV.mono:a3v RV:=SlV.mono QV.mono 3
theorem MC.mono:a3v MC:=SlV.mono RC.mono 1
theorem MV.mono:a3v MV:=SlV.mono RV.mono 1
theorem RC.elem:Elem RC 1:=SlV.elem QC.elem
theorem RV.elem:Elem RV 1:=SlV.elem QV.elem
def BR (B:Nat) (l:List Rat):Prop:=∀q∈l,hq q<=B
def BM (B:Nat) (m:List (List Rat)):Prop:=∀r∈m,BR B r
theorem Sl.qv {h:Mem} {ao:Option Addr} {l:List Rat} (s:Sl QC 3 h ao l) (hb:BR 68719476736 l):Sl QV 3 h ao l:=
 ⟨s.1,fun i hi=>let ⟨u,h1,h2,h3⟩:=s.2 i hi;⟨u,h1,h2,h3.qv (hb _ (List.getElem_mem _))⟩⟩
theorem RC.rv {h:Mem} {u:Value} {l:List Rat} (s:RC h u l) (hb:BR 68719476736 l):RV h u l:=by
 obtain⟨ao,c,rfl,h1,h2⟩:=s;exact⟨ao,c,rfl,h1,h2.qv hb⟩
theorem MC.mv {h:Mem} {u:Value} {m:List (List Rat)} (s:MC h u m) (hb:BM 68719476736 m):MV h u m:=by
 obtain⟨ao,c,rfl,h1,h2,h3⟩:=s;exact⟨ao,c,rfl,h1,h2,fun i hi=>let ⟨u,k1,k2,k3⟩:=h3 i hi;⟨u,k1,k2,RC.rv k3 (hb _ (List.getElem_mem _))⟩⟩
theorem Sl.row {R:Mem->Value->Rat->Prop} {X:Nat->Bool} {w:World} {ao:Option Addr} {m:List (List Rat)} (s:Sl (SlV R 3) 1 (mk X w) ao m) (i:Nat) (hi:i<m.length):
  ∃a c,X (adr ao i).block=false/\Hid (∀Y W',ExtX Y w W'->Y (adr ao i).block=false->W'.cell? (adr ao i)=some (.slice a m[i].length c))/\m[i].length<=c/\Sl R 3 (mk X w) a m[i]:=by
 obtain⟨u,h1,a,c,rfl,h2,h3⟩:=s.cell SlV.one i hi;refine⟨a,c,?_,hid fun Y W' hE hY=>hE.cellY (a1e h1) hY,h2,h3⟩;cases hx:X (adr ao i).block
 ·rfl
 ·simp[mk,hx]at h1
end Go.Rep
namespace Go.Proofs.YtidbbddagfnfbaaGreat
open Go.RowKit Go.Rep Go.Lim
theorem a0D:SliceT Tryz.prog 24 45 3 56 (.agg #[.bool false, .slice none 0 0, .slice none 0 0]):=⟨Tryz.underlying24,by kernel_rfl⟩
theorem a0r:SliceT Tryz.prog 23 24 1 24 (.slice none 0 0):=⟨Tryz.underlying23,by kernel_rfl⟩
theorem b6L:(Tryz.prog.info? 24).map (fun i=>(i.zero,i.size,i.bytes))=some (some (.slice none 0 0),1,24):=by kernel_rfl
theorem a5z:TyI Tryz.prog 24 1:=let ⟨i,h,_,h2,_⟩:=info_parts b6L;⟨i,h,h2⟩
theorem a6E:TyI Tryz.prog 45 3:=let ⟨_,ti,_,h2,h3⟩:=a0u;⟨ti,h2,h3⟩
end Go.Proofs.YtidbbddagfnfbaaGreat
namespace Go.Rep
open Go.RowKit
theorem a6b {α:Type} {R:Mem->Value->α->Prop} (hR:a3v R) {X:Nat->Bool} {w w':World} {oo:Option Addr} {u:Value} {x:α} (h:R (mk X w) u x) (hE:Ext w w') (hb:∀j,j<w.heap.size->ob oo j=false):R (mk (un X oo) w') u x:=
 hR _ _ _ _ (a1f hE (fun k _ hk=>by simp[noY]at hk) fun j hk hz=>by simpa[un,hb j hk]using hz) h
section
variable {P:Program} {ops:Array Oper} {Q:Exit->Act->World->Prop} {a:Act} {w:World}
variable {α:Type} {R:Mem->Value->α->Prop} {sz:Nat} {X:Nat->Bool} {base:Nat} {e:TypeId} {ao:Option Addr} {cap:Nat} {l:List α}
theorem a1K {o:Oper} {K:Act->World->Prop} {E:Prop} {t by_:Nat} {z:Value} {arr:Array Value} {s x:Operand}
  (hg:o.guard=none) (hop:o.op=Op.call {callee:=Callee.builtin Builtin.append,args:=#[s,x],argTypes:=#[t,t]}) (T:SliceT P t e sz by_ z) (hzs:z.cells.size=sz) (hR:Elem R sz) (hbase:base<=w.heap.size) (hX:∀k,X k=true->k<w.heap.size) (n:Nat) (hn:l.length=n)
  (hs:a.eval s= .slice ao n cap) (hx:a.eval x= .slice (some ⟨w.heap.size,0,none⟩) 1 1) (h:OL R sz X base e w ao cap l)
  (u:Value) (y:α) (harr:arr=u.cells) (hu:R (mk (un X ao) w) u y) (hroom:(n+1)*by_<=140737488355328) (hmax:n+1<=9223372036854775807)
  (hK:∀ao' cap' w',OL R sz X base e w' ao' cap' (l++[y])->ExtX (ob ao) w w'->(ao'=ao\/∃g,ao'=some ⟨g,0,none⟩/\w.heap.size<=g)->K (a.put o.dst (.slice ao' (n+1) cap')) w'):
  if Region.wanted o (yielded ops a.tmps)=true then Oper.wp P o a (w.alloc (.cells arr e)) K Q else E:=by
 have hw:Region.wanted o (yielded ops a.tmps)=true:=by simp[Region.wanted,hg]
 rw[if_pos hw];subst hn;have hE:Ext w (w.alloc (.cells arr e)):=(ExtX.refl w).alloc _;have hsz:w.heap.size+1=(w.alloc (.cells arr e)).heap.size:=by simp
 obtain⟨ao',cap',w',hr,h2,h3,h4⟩:=(h.ext0 hR hE).run_append (P:=P) T hzs hR (by omega) (fun k hk=>by have:=hX k hk;omega) (some ⟨w.heap.size,0,none⟩) 1 [u] [y] (b1i w arr e u harr) rfl
  (fun i hi _=>by
           have:i=0:=by simpa using hi
           subst this;exact hR.mono _ _ _ _ (a0p hE) hu) (by simpa using hroom) (by simpa using hmax) o.type
 unfold Oper.wp execOp;rw[hop];simp only[resolve,invoke,builtin,Sem.run_bind,Sem.run_pure,Result.andThen_ok,List.map_toArray,List.map_cons,List.map_nil,hs,hx];rw[show([y]:List α).length=1 from rfl]at hr;rw[hr];have:=hK ao' cap' w' h2 ((ExtX.of hE).trans h3) (by
  rcases h4 with h4|⟨g,h4,h5⟩
  ·exact .inl h4
  ·exact .inr ⟨g,h4,by omega⟩)
 rw[show(l++[y]).length=l.length+1 from by simp];exact this
end
end Go.Rep
namespace Go.Lim
theorem a7v (a b:Nat):(a2R a b==0)=decide (a=b):=by
 rw[Bool.eq_iff_iff];simp only[beq_iff_eq,decide_eq_true_eq];exact b6o a b
end Go.Lim
namespace Go.Proofs.YtidbbddagfnfbaaGreat
open Go.RowKit Go.Rep Go.Lim
set_option maxRecDepth 100000 in
theorem b5K (X:Nat->Bool) (w:World) (s:Bool) (ao bo:Option Addr) (c e:Nat) (m d:List Nat) (hX:HX X w) (hm:Sl (a0d .u32) 1 (mk X w) ao m) (hd:Sl (a0d .u32) 1 (mk X w) bo d) (hml:m.length<=68719476736) (hdl:d.length<=68719476736) (hmd:Dig m) (hdd:Dig d) (hmc:m.length<=c) (hdc:d.length<=e):
  Calls Tryz.prog 229 #[.agg #[.bool s, .slice ao m.length c, .slice bo d.length e]] w (b1A w (a1r s m d)):=by
 obtain⟨W,hW,hE,b0,hz⟩:=a1t w #[.bool s, .slice ao m.length c, .slice bo d.length e] 45;have hXW:HX X W:=hX.ext hE;have hmW:=hm.mono (a0d.mono _) (a0p hE);have hdW:=hd.mono (a0d.mono _) (a0p hE);obtain⟨b,hb⟩:∃b,w.heap.size=b:=⟨_,rfl⟩;rw[hb]at b0 hz;have k00:=b0.cell 0 rfl;have k01:=b0.cell 1 rfl;have k02:=b0.cell 2 rfl;have hdef:Hid (a1r s m d=(a1n s m&&a1u d&&(decide (d.length=0)||(decide (0<m.length)&& !(nv d==1)&&(Nat.gcd (nv m) (nv d)==1))))):=hid rfl;clear hX hm hd hz;cases hv:a1n s m
 ·have hf:Hid (a1r s m d=false):=hid (by rw[hdef.out,hv];rfl)
  have hv':=hid hv;clear hv hdef;go_enter Tryz.func229,Tryz.ntmps229
  go_wp2_with fail
  refine(a6R X W s ao c m hmW (by omega)).mono ?_;rintro e w1 ⟨hE1,rfl⟩;rw[hv'.out];clear k00 k01 k02;go_wp2_with fail
  go_ret
  exact⟨hE.trans hE1,a0n hf.out.symm⟩
 ·cases hl:a1u d
  ·have hf:Hid (a1r s m d=false):=hid (by rw[hdef.out,hv,hl];rfl)
   have hv':=hid hv;have hl':=hid hl;clear hv hdef hl;go_enter Tryz.func229,Tryz.ntmps229
   go_wp2_with fail
   refine(a6R X W s ao c m hmW (by omega)).mono ?_;rintro e w1 ⟨hE1,rfl⟩;rw[hv'.out];have j02:=(b0.ext0 hE1).cell 2 rfl;have hd1:=hdW.mono (a0d.mono _) (a0p hE1);clear k00 k01 k02;go_wp2_with fail
   refine(a2c X _ _ _ _ hd1 (by omega)).mono ?_;rintro e w2 ⟨rfl,rfl⟩;rw[hl'.out];clear j02;go_wp2_with fail
   go_ret
   exact⟨hE.trans hE1,a0n hf.out.symm⟩
  ·have hf:Hid (a1r s m d=(decide (d.length=0)||(decide (0<m.length)&& !(nv d==1)&&(Nat.gcd (nv m) (nv d)==1)))):=hid (by rw[hdef.out,hv,hl];rfl)
   have hv':=hid hv;have hl':=hid hl;have hmv:a1u m=true:=by unfold a1n at hv;simp at hv;exact hv.1
   have hcm:=hid (show a0I m (nv m)from⟨hmd,hmv,rfl⟩);have hcd:=hid (show a0I d (nv d)from⟨hdd,hl,rfl⟩);clear hv hdef hl hmv;by_cases h0:d.length=0
   ·have hf2:Hid (a1r s m d=true):=hid (by rw[hf.out,decide_eq_true h0];rfl)
    obtain rfl:d= []:=List.eq_nil_of_length_eq_zero h0;clear h0 hf;simp only[List.length_nil]at hW b0 k02 |-;go_enter Tryz.func229,Tryz.ntmps229
    go_wp2_with fail
    refine(a6R X W s ao c m hmW (by omega)).mono ?_;rintro e w1 ⟨hE1,rfl⟩;rw[hv'.out];have j02:=(b0.ext0 hE1).cell 2 rfl;have hd1:=hdW.mono (a0d.mono _) (a0p hE1);clear k00 k01 k02;go_wp2_with fail
    refine(a2c X _ [] _ _ hd1 (by simp)).mono ?_;rintro e w2 ⟨rfl,rfl⟩;rw[hl'.out];go_wp2_with fail
    go_ret
    exact⟨hE.trans hE1,a0n hf2.out.symm⟩
   ·have hdI:((d.length:Int)==0)=false:=a2I (by omega)
    have hfd:Hid (a1r s m d=(decide (0<m.length)&& !(nv d==1)&&(Nat.gcd (nv m) (nv d)==1))):=hid (by rw[hf.out,decide_eq_false h0];rfl);clear hf;go_enter Tryz.func229,Tryz.ntmps229
    go_wp2_with fail
    refine(a6R X W s ao c m hmW (by omega)).mono ?_;rintro e' w1 ⟨hE1,rfl⟩;rw[hv'.out];have b1:=b0.ext0 hE1;have j02:=b1.cell 2 rfl;have j01:=b1.cell 1 rfl;have hd1:=hdW.mono (a0d.mono _) (a0p hE1);have hm1:=hmW.mono (a0d.mono _) (a0p hE1);have hX1:=hXW.ext hE1;have hmn:NV (mk X w1) (.slice ao m.length c) (nv m):=⟨ao,c,m,rfl,hmc,hmd,by omega,hm1,by unfold val;rw[a0I.vl hcm.out]⟩;have hdn:NV (mk X w1) (.slice bo d.length e) (nv d):=⟨bo,e,d,rfl,hdc,hdd,by omega,hd1,by unfold val;rw[a0I.vl hcd.out]⟩;clear k00 k01 k02;have hB:=hid b1;have hEd:Ext w1 w1.drew:=(ExtX.refl w1).drew;have hXd:HX X w1.drew:=hX1;have hdnd:NV (mk X w1.drew) (.slice bo d.length e) (nv d):=hdn;by_cases hm0:m.length=0
    ·have hf2:Hid (a1r s m d=false):=hid (by rw[hfd.out,decide_eq_false (by omega)];rfl)
     obtain rfl:m= []:=List.eq_nil_of_length_eq_zero hm0;clear hfd hm0 h0;simp only[List.length_nil]at b1 j01 hB |-;go_wp2_with fail
     refine(a2c X _ _ _ _ hd1 (by omega)).mono ?_;rintro e' w2 ⟨rfl,rfl⟩;rw[hl'.out];go_wp2_with fail
     try go_quiet (fail)
     go_wp2_with fail
     go_ret
     exact⟨hE.trans (hE1.trans ((ExtX.refl w1).drewN _)),a0n hf2.out.symm⟩
    ·have hmI:((m.length:Int)==0)=false:=a2I (by omega)
     have hfm:Hid (a1r s m d=(!(nv d==1)&&(Nat.gcd (nv m) (nv d)==1))):=hid (by rw[hfd.out,decide_eq_true (by omega)];rfl);clear hfd hm0 h0;go_wp2_with fail
     refine(a2c X _ _ _ _ hd1 (by omega)).mono ?_;rintro e' w2 ⟨rfl,rfl⟩;rw[hl'.out];go_wp2_with fail
     go_region_held3 (fun w'=>w'.cell? ⟨b,1,none⟩=some (.slice ao m.length c)/\w'.cell? ⟨b,2,none⟩=some (.slice bo d.length e))
      (first|exact⟨(hB.out.ext0 (hEd.trans hE5)).cell 1 rfl,(hB.out.ext0 (hEd.trans hE5)).cell 2 rfl⟩|exact⟨(hB.out.ext0 (hEd.trans (hE5.trans hE6))).cell 1 rfl,(hB.out.ext0 (hEd.trans (hE5.trans hE6))).cell 2 rfl⟩|go_keep)
      (first|(go_at_call 231;(with_reducible refine(b9P X w1.drew hXd).mono ?_);rintro e5 w5 ⟨hE5,u5,rfl,hu5⟩;have hu5n:=hu5.nv (by rw[a3s];decide))|(go_at_call 196;(with_reducible refine(b9N (mkx NV.mono hdnd hE5) hu5n).mono ?_);rintro e6 w6 ⟨hE6,rfl⟩))
     have hE6':=hEd.trans (hE5.trans hE6);have b6:=hB.out.ext0 hE6';have hm6:=mkx NV.mono hmn hE6';have hd6:=mkx NV.mono hdn hE6';have hX6:=hX1.ext hE6';clear j01 j02;have j01:=b6.cell 1 rfl;have j02:=b6.cell 2 rfl;rw[a7v];by_cases h1:nv d=1
     ·have hf2:Hid (a1r s m d=false):=hid (by rw[hfm.out,h1];rfl)
      have hI1:decide (nv d=1)=true:=decide_eq_true h1;rw[hI1];clear h1 hI1 hfm;go_wp2_with fail
      go_ret
      exact⟨hE.trans (hE1.trans hE6'),a0n hf2.out.symm⟩
     ·have hf2:Hid (a1r s m d=decide (Nat.gcd (nv m) (nv d)=1)):=hid (by
       rw[hfm.out,Bool.eq_iff_iff];simp[h1])
      have hI1:decide (nv d=1)=false:=decide_eq_false h1;rw[hI1];clear h1 hI1 hfm;go_wp2_with fail
      refine(c0D hX6 hm6 hd6).mono ?_;rintro e7 w7 ⟨hE7,u7,rfl,hu7⟩;have hX7:=hX6.ext hE7;have hg7:lg (Nat.gcd (nv m) (nv d))<=1099511627776:=by
       have h1:Nat.gcd (nv m) (nv d)<=nv d\/nv d=0:=by
        by_cases h:nv d=0
        ·exact .inr h
        ·exact .inl (Nat.gcd_le_right _ (by omega))
       rcases h1 with h1|h1
       ·exact Nat.le_trans (a1h h1) hdn.lg
       ·rw[h1,Nat.gcd_zero_right];exact hmn.lg
      have hg7':=hid hg7;clear j01 j02 hg7;go_wp2_with fail
      refine(b9P X w7 hX7).mono ?_;rintro e8 w8 ⟨hE8,u8,rfl,hu8⟩;have h7n:=mkx NV.mono (hu7.nv hg7'.out) hE8;go_wp2_with fail
      refine(b9N h7n (hu8.nv (by rw[a3s];decide))).mono ?_;rintro e9 w9 ⟨hE9,rfl⟩;have hcq:Hid ((a2R (Nat.gcd (nv m) (nv d)) 1==0)=a1r s m d):=hid (by rw[a7v,hf2.out]);generalize a2R (Nat.gcd (nv m) (nv d)) 1=cc at*;go_wp2_with fail
      go_ret
      exact⟨hE.trans (hE1.trans (hE6'.trans (hE7.trans (hE8.trans hE9)))),a0n hcq.out⟩
set_option maxRecDepth 100000 in
theorem a4l (X:Nat->Bool) (w:World) (u:Value) (q:Rat) (hX:HX X w) (hu:QV (mk X w) u q):Calls Tryz.prog 160 #[u] w (a1Z X w QC q):=by
 obtain⟨s,ao,c,m,bo,e,d,rfl,h1,h2,h3,h4,h5,h6,h7,h8,rfl⟩:=hu;obtain⟨W,hW,hE,b0,b1,hz⟩:=a1v w #[.bool s, .slice ao m.length c, .slice bo d.length e] #[.bool false, .slice none 0 0, .slice none 0 0] 45 45;have hXW:HX (a0f X w.heap.size 2) W:=hX.boxes hz;have hs1:Sl (a0d .u32) 1 (mk (a0f X w.heap.size 2) W) ao m:=h7.mono (a0d.mono _) (a0o hE);have hs2:Sl (a0d .u32) 1 (mk (a0f X w.heap.size 2) W) bo d:=h8.mono (a0d.mono _) (a0o hE);obtain⟨b,hb⟩:∃b,w.heap.size=b:=⟨_,rfl⟩;have hbw:w.heap.size<=b:=by omega
 rw[hb]at b0 b1 hz hs1 hs2 hXW;have c0:=b0.cell 0 rfl;have c1:=b0.cell 1 rfl;have c2:=b0.cell 2 rfl;cases hv:a1r s m d
 ·have hz0:=hid (a3C hv)
  have hv':=hid hv;clear hv;go_enter Tryz.func160,Tryz.ntmps160
  go_wp2_with fail
  refine(b5K (a0f X b 2) W s ao bo c e m d hXW hs1 hs2 h5 h6 h3 h4 h1 h2).mono ?_;rintro e1 w1 ⟨hE1,rfl⟩;rw[hv'.out];have b1':=b1.ext0 hE1;clear c0 c1 c2;go_wp2_with ((with_reducible show wpList _ _ _ (⟨_, .store _ _ _,_,_,_,_⟩::_) _ _);refine a0c a0u rfl rfl b1' rfl rfl (a2g _ _ _ _ _ _ _) ?_;intro w2 b2 hE2)
  exact bodyPost_ret (a0e rfl rfl a0u b2 rfl) rfl ⟨ExtX.box (hE.trans hE1) hE2 (by omega),_,rfl,by rw[hz0.out];exact QC.zero _⟩
 ·have hv':=hid hv
  clear hv;go_enter Tryz.func160,Tryz.ntmps160
  go_wp2_with fail
  refine(b5K (a0f X b 2) W s ao bo c e m d hXW hs1 hs2 h5 h6 h3 h4 h1 h2).mono ?_;rintro e1 w1 ⟨hE1,rfl⟩;rw[hv'.out];have b0':=b0.ext0 hE1;have b1':=b1.ext0 hE1;clear c0 c1 c2;have c0:=b0'.cell 0 rfl;have c1:=b0'.cell 1 rfl;have c2:=b0'.cell 2 rfl;go_wp2_with ((with_reducible show wpList _ _ _ (⟨_, .store _ _ _,_,_,_,_⟩::_) _ _);refine a0c a0u rfl rfl b1' rfl rfl (a2g _ _ _ _ _ _ _) ?_;intro w2 b2 hE2)
  have hs3:=((hs1.mono (a0d.mono _) (a0p hE1)).mono (a0d.mono _) (a0i hE2 (by omega) (by omega))).mono (a0d.mono _) a0l;have hs4:=((hs2.mono (a0d.mono _) (a0p hE1)).mono (a0d.mono _) (a0i hE2 (by omega) (by omega))).mono (a0d.mono _) a0l;exact bodyPost_ret (a0e rfl rfl a0u b2 rfl) rfl ⟨ExtX.box (hE.trans hE1) hE2 (by omega),_,rfl,s,ao,c,m,bo,e,d,rfl,h1,h2,a5K.of_valid h3 h4 hv'.out,hs3,hs4⟩
theorem _root_.Go.Rep.NC.asZ {M:Mem} {u:Value} {n:Nat} (hu:NC M u n) (hn:lg n<=549755813888):∃ao k c,u= .slice ao k c/\ZV M (.agg #[.bool false, .slice ao k c]) (n:Int):=by
 obtain⟨ao,c,l,rfl,h1,h2,h3⟩:=hu;refine⟨ao,_,c,rfl,false,ao,c,l,rfl,h1,h2.1,by rw[h2.len];exact hn,h3,?_⟩;unfold a7q a1n;rw[h2.2.1,h2.2.2];simp
theorem a1V {X:Nat->Bool} {w w6:World} {b nb:Nat} {x0 x1 x2 y0 y1 y2:Value} {T U:TypeId} (h0:Bx w6 b #[x0,x1,x2] T) (h1:Bx w6 (b+1) #[y0,y1,y2] U) (hE:Ext w w6) (hb:w.heap.size<=b) (hn:2<=nb) (v0 v1 v2 u0 u1 u2:Value):
  ∃wf,((((((w6.setCell ⟨b,0,none⟩ v0).setCell ⟨b,1,none⟩ v1).setCell ⟨b,2,none⟩ v2).setCell ⟨b+1,0,none⟩ u0).setCell ⟨b+1,1,none⟩ u1).setCell ⟨b+1,2,none⟩ u2)=wf/\Bx wf b #[v0,v1,v2] T/\Bx wf (b+1) #[u0,u1,u2] U/\(∀k cs V,k≠b->k≠b+1->Bx w6 k cs V->Bx wf k cs V)/\Ext w wf/\Le (mk (a0f X b nb) w6) (mk (a0f X b nb) wf):=by
 obtain⟨r1,r2⟩:=h0.set3 v0 v1 v2;have h1':=h1.ext r2 (a0b (by omega));obtain⟨r3,r4⟩:=h1'.set3 u0 u1 u2;refine⟨_,rfl,r1.ext r4 (a0b (by omega)),r3,fun k cs V k1 k2 h=>(h.ext r2 (a0b k1)).ext r4 (a0b k2),ExtX.box (ExtX.box hE r2 hb) r4 (by omega),(a0i r2 (Nat.le_refl _) (by omega)).trans (a0i r4 (by omega) (by omega))⟩
theorem a5A (X:Nat->Bool) (w:World) (u v:Value) (x:Int) (n:Nat) (hX:HX X w) (hu:ZC (mk X w) u x) (hv:NC (mk X w) v n) (hx:lg x.natAbs<=549755813888) (hn:lg n<=549755813888):Calls Tryz.prog 162 #[u,v] w (a1Z X w ZC (x*n)):=by
 obtain⟨bo,k,e,rfl,hv2⟩:=hv.asZ hn;have huz:=hu.zv hx;obtain⟨s,ao,c,l,rfl,h1,h2,h3⟩:=hu;obtain⟨W,hW,hE,b0,b1,hz⟩:=a1v w #[.bool s, .slice ao l.length c] #[.bool false, .slice none 0 0] 43 43;have hXW:HX (a0f X w.heap.size 2) W:=hX.boxes hz;have hu1:=ZV.mono _ _ _ _ (a0o (nb:=2) hE) huz;have hv1:=ZV.mono _ _ _ _ (a0o (nb:=2) hE) hv2;obtain⟨b,hb⟩:∃b,w.heap.size=b:=⟨_,rfl⟩;have hbw:w.heap.size<=b:=by omega
 rw[hb]at b0 b1 hz hXW hu1 hv1;have c0:=b0.cell 0 rfl;have c1:=b0.cell 1 rfl;clear hx hn;go_enter Tryz.func162,Tryz.ntmps162
 go_wp2_with fail
 refine(b9O (a0f X b 2) W _ _ _ _ hXW hu1 hv1).mono ?_;rintro e1 w1 ⟨hE1,u1,rfl,s6,a6,c6,l6,rfl,h61,h62,h63⟩;have b1':=b1.ext0 hE1;clear c0 c1;go_wp2_with ((with_reducible show wpList _ _ _ (⟨_, .store _ _ _,_,_,_,_⟩::_) _ _);refine a0c a0H rfl rfl b1' rfl rfl (a2K _ _ _ _) ?_;intro w7 r1 r2)
 have h7:=(h63.mono (a0d.mono _) (a0i r2 (by omega) (by omega))).mono (a0d.mono _) a0l;exact bodyPost_ret (a0e rfl rfl a0H r1 rfl) rfl ⟨ExtX.box (hE.trans hE1) r2 (by omega),_,rfl,s6,a6,c6,l6,rfl,h61,h62,h7⟩
set_option maxRecDepth 100000 in
theorem a5k (X:Nat->Bool) (w:World) (u v:Value) (z:Int) (k:Nat) (hX:HX X w) (hu:ZC (mk X w) u z) (hv:NC (mk X w) v k) (hz:lg z.natAbs<=549755813888) (hk:lg k<=549755813888) (hk0:0<k):Calls Tryz.prog 178 #[u,v] w (a1Z X w QC (mkRat z k)):=by
 obtain⟨s,ao,c,l,rfl,h1,h2,h3⟩:=hu;have hvn:=hv.nv (by omega:lg k<=1099511627776);obtain⟨bo,e,m,rfl,g1,g2,g3⟩:=hv;obtain⟨W,hW,hE,b0,b1,hzz⟩:=a1v w #[.bool s, .slice ao l.length c] #[.bool false, .slice none 0 0, .slice none 0 0] 43 45;have hXW:HX (a0f X w.heap.size 2) W:=hX.boxes hzz;have hu1:NV (mk (a0f X w.heap.size 2) W) (.slice ao l.length c) z.natAbs:=NC.nv ⟨ao,c,l,rfl,h1,h2.2,h3.mono (a0d.mono _) (a0o hE)⟩ (by omega);have hv1:=NV.mono _ _ _ _ (a0o (nb:=2) hE) hvn;obtain⟨b,hb⟩:∃b,w.heap.size=b:=⟨_,rfl⟩;have hbw:w.heap.size<=b:=by omega
 rw[hb]at b0 b1 hzz hXW hu1 hv1;have c0:=b0.cell 0 rfl;have c1:=b0.cell 1 rfl;obtain⟨g,hg⟩:∃g,Nat.gcd z.natAbs k=g:=⟨_,rfl⟩;have hg0:Hid (0<g):=hid (by rw[<-hg];exact Nat.gcd_pos_of_pos_right _ hk0);have hgl:Hid (lg g<=1099511627776):=hid (by rw[<-hg];exact Nat.le_trans (a1h (Nat.gcd_le_right _ hk0)) (by omega));have hlow:=hid (fun(n d:List Nat) (hn:a0I n (z.natAbs/g)) (hd:a0I d (k/g))=>by
  have:=a5K.lowest (s:=s) (z:=z) (k:=k) (n:=n) (d:=d) (by omega) h2.1 (by rw[hg];exact hn) (by rw[hg];exact hd);rw[hg]at this;exact this)
 have hdl:Hid (lg (k/g)<=1099511627776):=hid (Nat.le_trans (a1h (Nat.div_le_self _ _)) (by omega));have hg':=hid hg;clear hz hk hk0 h2 g2 hvn hg;go_enter Tryz.func178,Tryz.ntmps178
 go_wp2_with fail
 refine(c0D hXW hu1 hv1).mono ?_;rintro e1 w1 ⟨hE1,ug,rfl,hug⟩;rw[hg'.out]at hug;have hX1:=hXW.ext hE1;have b01:=b0.ext0 hE1;have j0:=b01.cell 0 rfl;have j1:=b01.cell 1 rfl;clear c0 c1;go_wp2_with fail
 refine(c0F hX1 (mkx NV.mono hu1 hE1) (hug.nv hgl.out) hg0.out).mono ?_;rintro e2 w2 ⟨hE2,qu,ru,rfl,hqu,hru⟩;have hX2:=hX1.ext hE2;have b02:=b01.ext0 hE2;clear j0 j1;go_wp2_with fail
 refine(c0F hX2 (mkx NV.mono hv1 (hE1.trans hE2)) (mkx NV.mono (hug.nv hgl.out) hE2) hg0.out).mono ?_;rintro e3 w3 ⟨hE3,du,ru2,rfl,hdu,hru2⟩;have hX3:=hX2.ext hE3;go_wp2_with fail
 refine(b9P (a0f X b 2) w3 hX3).mono ?_;rintro e4 w4 ⟨hE4,ou,rfl,hou⟩;go_wp2_with fail
 refine(b9N (mkx NV.mono (hdu.nv hdl.out) hE4) (hou.nv (by rw[a3s];decide))).mono ?_;rintro e5 w5 ⟨hE5,rfl⟩;have hcq:Hid ((a2R (k/g) 1==0)=decide (k/g=1)):=hid (a7v _ _);have hqu5:=mkx NC.mono hqu (hE3.trans (hE4.trans hE5));have hdu5:=mkx NC.mono hdu (hE4.trans hE5);have hEE:=hE2.trans (hE3.trans (hE4.trans hE5));have b05:=b01.ext0 hEE;have b15:=b1.ext0 (hE1.trans hEE);have j0:=b05.cell 0 rfl;have j1:=b05.cell 1 rfl;obtain⟨qa,qc,ql,rfl,q1,q2,q3⟩:=hqu5;obtain⟨da,dc,dl,rfl,d1,d2,d3⟩:=hdu5;have hfin:=hid (hlow.out ql dl q2 d2);have hEf:=hE.trans (hE1.trans hEE);clear hqu hdu hru hru2 hou hug hlow q2 d2;by_cases h1':k/g=1
 ·have hf:=hfin.out
  rw[if_pos h1']at hf;have hI:(a2R (k/g) 1==0)=true:=by rw[hcq.out];exact decide_eq_true h1'
  generalize a2R (k/g) 1=cc at*;clear hcq h1' hfin;go_wp2_with ((with_reducible show wpList _ _ _ (⟨_, .store _ _ _,_,_,_,_⟩::_) _ _);refine a0c a0u rfl rfl b15 rfl rfl (a2g _ _ _ _ _ _ _) ?_;intro w7 r1 r2)
  have h7:=(q3.mono (a0d.mono _) (a0i r2 (by omega) (by omega))).mono (a0d.mono _) a0l;exact bodyPost_ret (a0e rfl rfl a0u r1 rfl) rfl ⟨ExtX.box hEf r2 (by omega),_,rfl,s,qa,qc,ql,none,0,[],rfl,q1,Nat.le_refl _,hf,h7,Sl.nil _ _ _ _⟩
 ·have hf:=hfin.out
  rw[if_neg h1']at hf;have hI:(a2R (k/g) 1==0)=false:=by rw[hcq.out];exact decide_eq_false h1'
  generalize a2R (k/g) 1=cc at*;clear hcq h1' hfin;go_wp2_with ((with_reducible show wpList _ _ _ (⟨_, .store _ _ _,_,_,_,_⟩::_) _ _);refine a0c a0u rfl rfl b15 rfl rfl (a2g _ _ _ _ _ _ _) ?_;intro w7 r1 r2)
  have h7:=(q3.mono (a0d.mono _) (a0i r2 (by omega) (by omega))).mono (a0d.mono _) a0l;have h8:=(d3.mono (a0d.mono _) (a0i r2 (by omega) (by omega))).mono (a0d.mono _) a0l;exact bodyPost_ret (a0e rfl rfl a0u r1 rfl) rfl ⟨ExtX.box hEf r2 (by omega),_,rfl,s,qa,qc,ql,da,dc,dl,rfl,q1,d1,hf,h7,h8⟩
theorem b9Y (X:Nat->Bool) (w:World) (v:Int) (hX:HX X w) (h1: -9223372036854775808<=v) (h2:v<=9223372036854775807):Calls Tryz.prog 98 #[.int .i64 v] w (a1Z X w QC v):=by
 obtain⟨W,hW,hE,b0,hz⟩:=a1t w #[.bool false, .slice none 0 0, .slice none 0 0] 45;have hXW:HX (a0f X w.heap.size 1) W:=hX.boxes hz;obtain⟨b,hb⟩:∃b,w.heap.size=b:=⟨_,rfl⟩;have hbw:w.heap.size<=b:=by omega
 rw[hb]at b0 hz hXW;have h1':=hid h1;have h2':=hid h2;clear h1 h2;go_enter Tryz.func98,Tryz.ntmps98
 go_wp2_with fail
 refine(b9X (a0f X b 1) W v hXW h1'.out h2'.out).mono ?_;rintro e1 w1 ⟨hE1,u1,rfl,s6,a6,c6,l6,rfl,h61,h62,h63⟩;have b1':=b0.ext0 hE1;have hcq:=a5K.ofInt h62;go_wp2_with ((with_reducible show wpList _ _ _ (⟨_, .store _ _ _,_,_,_,_⟩::_) _ _);refine a0c a0u rfl rfl b1' rfl rfl (a2g _ _ _ _ _ _ _) ?_;intro w7 r1 r2)
 have h7:=(h63.mono (a0d.mono _) (a0i r2 (by omega) (by omega))).mono (a0d.mono _) a0l;exact bodyPost_ret (a0e rfl rfl a0u r1 rfl) rfl ⟨ExtX.box (hE.trans hE1) r2 (by omega),_,rfl,s6,a6,c6,l6,none,0,[],rfl,h61,Nat.le_refl _,hcq,h7,Sl.nil _ _ _ _⟩
end Go.Proofs.YtidbbddagfnfbaaGreat
