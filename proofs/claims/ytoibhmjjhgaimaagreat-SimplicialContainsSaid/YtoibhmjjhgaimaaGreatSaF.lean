/- The reference's integers: Div, where it leaves no remainder. Conditions: at most 2^38 digits. integer.FromInt, Compare. Conditions: at most 2^39 digits. rational: readings; one, Valid, value, den. Conditions: at most 2^36 digits. Rows of rational numbers, and matrices, in slices: their elements, loads, types. Conditions: none. Products of rows and matrices, the transposed matrix, over lists. Conditions: none. The determinants and ranks that the program computes. Conditions: at most four rows for determinants. A step of a drawn region: append of one element to an owned list. Conditions: none. rational.Valid, value. Conditions: at most 2^36 digits. rational.times, lowest, FromInt. Conditions: at most 2^38 digits. rational.Add. Conditions: at most 2^36 digits. rational.Mul. Conditions: at most 2^36 digits. rational.Compare, Sign, Neg, Sub. Conditions: at most 2^36 digits. rational.Neg, Sub. Conditions: at most 2^36 digits. rational.Make, Div. Conditions: at most 2^36 digits. reference 03: one, Valid. Conditions: at most 2^36 digits. -/
import Derived.Test.YtoibhmjjhgaimaaGreatSaE
import Derived.Deep.RegionHeld3
namespace Go.Proofs.YtoibhmjjhgaimaaGreat
open Go.RowKit Go.Rep Go.Lim
def c0Y (X:Nat->Bool) (w:World) (q:Int) (e:Ending) (w':World):Prop:=Ext w w'/\∃u sv av nv cv,e= .returned (.tuple #[u, .agg #[.bool sv, .slice av nv cv], .bool true])/\ZC (mk X w') u q
theorem a6c {P:Program} {w:World} {fn:Func} {tmps:Array Value} {c c2 d:Tmp} {t:TypeId} {n b b':Nat} {cs cs':Array Value} {T T':TypeId} (h:fn.results=#[.cell c t, .cell c2 t, .tmp d]) (hp:tmps.getD c undef= .pointer (some ⟨b,0,none⟩)) (hp2:tmps.getD c2 undef= .pointer (some ⟨b',0,none⟩)) (hT:a2J P t n) (hb:Bx w b cs T) (hcs:cs.size=n) (hb':Bx w b' cs' T') (hcs':cs'.size=n):
  (results fn tmps).run P w= .ok (.tuple #[.agg cs, .agg cs',tmps.getD d undef]) w:=by
 have hl:=a2K (P:=P) hT hb hcs;have hl':=a2K (P:=P) hT hb' hcs';rw[Array.getD_eq_getD_getElem?]at hp hp2;simp[results,h,hp,hp2,asAddr,hl,hl']
set_option maxRecDepth 100000 in
set_option maxHeartbeats 800000 in
theorem b5K (X:Nat->Bool) (w:World) (u v:Value) (x y:Int) (hX:HX X w) (hu:ZV (mk X w) u x) (hv:ZV (mk X w) v y) (hbx:lg x.natAbs<=274877906944) (hby:lg y.natAbs<=274877906944) (h0:0<y) (hd:y∣x):Calls Tryz.prog 176 #[u,v] w (c0Y X w (x/y)):=by
 have hbx':=hid hbx;have hby':=hid hby;have hq:Hid (∃k:Int,x=y*k/\x/y=k):=hid (by
  obtain⟨k,rfl⟩:=hd;exact⟨k,rfl,Int.mul_ediv_cancel_left _ (by omega)⟩)
 have h0':=hid h0;clear hbx hby hd h0;have hlx:=hid hu.lg;have hly:=hid hv.lg;obtain⟨s1,a1,c1,l1,rfl,hu'⟩:=id hu;obtain⟨s2,a2,c2,l2,rfl,hv'⟩:=id hv;obtain⟨W,hW,hE,b0,b1,b2,b3,hz⟩:=b3x w #[.bool s1, .slice a1 l1.length c1] #[.bool s2, .slice a2 l2.length c2] #[.bool false, .slice none 0 0] #[.bool false, .slice none 0 0] 30 30 30 30;have hXW:HX (a0e X w.heap.size 4) W:=hX.boxes hz;have hu1:=ZV.mono _ _ _ _ (a0q (nb:=4) hE) hu;have hv1:=ZV.mono _ _ _ _ (a0q (nb:=4) hE) hv;obtain⟨b,hb⟩:∃b,w.heap.size=b:=⟨_,rfl⟩;have hbw:w.heap.size<=b:=by omega
 rw[hb]at b0 b1 b2 b3 hz hXW hu1 hv1;have hEd:Ext W W.drew:=(ExtX.refl W).drew;have hXd:HX (a0e X b 4) W.drew:=hXW;have hud:ZV (mk (a0e X b 4) W.drew) (.agg #[.bool s1, .slice a1 l1.length c1]) x:=hu1;have hvd:ZV (mk (a0e X b 4) W.drew) (.agg #[.bool s2, .slice a2 l2.length c2]) y:=hv1;have k00:=b0.cell 0 rfl;have k01:=b0.cell 1 rfl;have k10:=b1.cell 0 rfl;have k11:=b1.cell 1 rfl;clear hu hv hu' hv';go_enter Tryz.func176,Tryz.ntmps176
 go_upto_region 1 with(fail)
 go_cut []from 10 to 13 (fun wx=>∃s3 a3 c3 l3 s4 a4 c4 l4,Bx wx b #[.bool s3, .slice a3 l3 c3] 30/\Bx wx (b+1) #[.bool s4, .slice a4 l4 c4] 30/\Bx wx (b+1+1) #[.bool false, .slice none 0 0] 30/\Bx wx (b+1+1+1) #[.bool false, .slice none 0 0] 30/\ZC (mk (a0e X b 4) wx) (.agg #[.bool s3, .slice a3 l3 c3]) x/\ZC (mk (a0e X b 4) wx) (.agg #[.bool s4, .slice a4 l4 c4]) y/\Ext w wx)
 case first=>
  go_region_with (first|(go_at_call 181;(with_reducible refine(a3Z (a0e X b 4) W.drew _ x hXd hud).mono ?_);rintro e w5 ⟨hE5,u5,rfl,s5,a5,c5,l5,rfl,h51,h52,h53⟩;have bb0:=b0.ext0 (hEd.trans hE5);have bb1:=b1.ext0 (hEd.trans hE5);have e00:=bb0.cell 0 rfl;have e01:=bb0.cell 1 rfl;have e10:=bb1.cell 0 rfl;have e11:=bb1.cell 1 rfl)|(go_at_call 181;(with_reducible refine(a3Z (a0e X b 4) w5 _ y (HX.ext hXd hE5) (mkx ZV.mono hvd hE5)).mono ?_);rintro e w6 ⟨hE6,u6,rfl,s6,a6,c6,l6,rfl,h61,h62,h63⟩;have bb2:=bb0.ext0 hE6;have bb3:=bb1.ext0 hE6;have g00:=bb2.cell 0 rfl;have g01:=bb2.cell 1 rfl;have g10:=bb3.cell 0 rfl;have g11:=bb3.cell 1 rfl;have fr0:=bb2.frozen 0;have fr1:=bb2.frozen 1;have fr2:=bb3.frozen 0;have fr3:=bb3.frozen 1))
  all_goals
   obtain⟨wf,hwf,q0,q1,q2,q3,q4⟩:=a2G (X:=X) (nb:=4) bb2 bb3 (hE.trans ((hEd.trans hE5).trans hE6)) hbw (by omega) (.bool s5) (.slice a5 l5.length c5) (.bool s6) (.slice a6 l6.length c6);rw[hwf];have hfx:ZC (mk (a0e X b 4) wf) (.agg #[.bool s5, .slice a5 l5.length c5]) x:=⟨s5,a5,c5,l5,rfl,h51,h52,(h53.mono (a0a.mono _) (a0m hE6)).mono (a0a.mono _) q4⟩;have hfy:ZC (mk (a0e X b 4) wf) (.agg #[.bool s6, .slice a6 l6.length c6]) y:=⟨s6,a6,c6,l6,rfl,h61,h62,h63.mono (a0a.mono _) q4⟩;have q5:=q2 (b+1+1) _ _ (by omega) (by omega) ((b2.ext0 (hEd.trans hE5)).ext0 hE6);have q6:=q2 (b+1+1+1) _ _ (by omega) (by omega) ((b3.ext0 (hEd.trans hE5)).ext0 hE6);clear e00 e01 e10 e11 g00 g01 g10 g11 fr0 fr1 fr2 fr3 k00 k01 k10 k11 hwf;go_wp2_with fail
   go_meet
   exact⟨_,_,_,_,_,_,_,_,q0,q1,q5,q6,hfx,hfy,q3⟩
 case rest=>
  clear k00 k01 k10 k11 b0 b1 b2 b3 hu1 hv1 hud hvd hXd hEd hW;obtain⟨s3,a3,c3,n3,s4,a4,c4,n4,b0,b1,b2,b3,hx,hy,hE1⟩:=hcut;obtain⟨_,_,_,l3,heq,h31,h32,h33⟩:=hx;simp only[Value.agg.injEq,Array.mk.injEq,List.cons.injEq,Value.bool.injEq,Value.slice.injEq,and_true]at heq;obtain⟨rfl,rfl,rfl,rfl⟩:=heq;obtain⟨_,_,_,l4,heq,h41,h42,h43⟩:=hy;simp only[Value.agg.injEq,Array.mk.injEq,List.cons.injEq,Value.bool.injEq,Value.slice.injEq,and_true]at heq;obtain⟨rfl,rfl,rfl,rfl⟩:=heq;have hlz:=hid (a4Q h32);have hlw:=hid (a4Q h42);have hsx:=hid h32.1;have hsy:=hid h42.1;have hEd:Ext wc wc.drew:=(ExtX.refl wc).drew;have hnx:NV (mk (a0e X b 4) wc) (.slice a3 l3.length c3) x.natAbs:=NC.nv ⟨a3,c3,l3,rfl,h31,h32.2,h33⟩ (by have:=hlx.out;omega);have hny:NV (mk (a0e X b 4) wc) (.slice a4 l4.length c4) y.natAbs:=NC.nv ⟨a4,c4,l4,rfl,h41,h42.2,h43⟩ (by have:=hly.out;omega);have hzz:w.heap.size+4<=wc.heap.size:=by have:=b3.lt;omega
  have hXc:HX (a0e X b 4) wc:=hX.boxes' hE1 (by omega) hzz;have k00:=b0.cell 0 rfl;have k01:=b0.cell 1 rfl;have k10:=b1.cell 0 rfl;have k11:=b1.cell 1 rfl;have hy0:Hid (0<y.natAbs):=hid (by have:=h0'.out;omega);have hmod:Hid (x.natAbs%y.natAbs=0):=hid (by
   obtain⟨k,hk,_⟩:=hq.out;rw[hk,Int.natAbs_mul];exact Nat.mul_mod_right _ _)
  obtain rfl:s4=false:=by rw[hsy.out];exact decide_eq_false (by have:=h0'.out;omega)
  have hfin:Hid (sg s3 (x.natAbs/y.natAbs)=x/y):=hid (by
   obtain⟨k,hk,hk2⟩:=hq.out;have h0:=h0'.out;have e1:=hlz.out;rw[hk2];have hdv:x.natAbs/y.natAbs=k.natAbs:=by rw[hk,Int.natAbs_mul];exact Nat.mul_div_cancel_left _ hy0.out
   rw[hdv,hsx.out];have hs:(x<0)=(k<0):=by
    rw[hk];exact propext ⟨fun h=>by
     by_cases hk0:k<0
     ·exact hk0
     ·have:=Int.mul_nonneg (show 0<=y by omega) (show 0<=k by omega);omega,fun h=>Int.mul_neg_of_pos_of_neg h0 h⟩
   unfold sg;simp only[hs];by_cases hk0:k<0
   ·simp only[hk0,decide_true,if_true];omega
   ·simp only[hk0,decide_false,Bool.false_eq_true,if_false];omega)
  clear hsx hsy hlz hlw h32 h42 hEd;go_wp2_with fail
  refine(b9U (a0e X b 4) wc _ _ _ _ hXc hnx hny hbx'.out hby'.out hy0.out).mono ?_;rintro e w5 ⟨hE5,qu,ru,rfl,hqu,hru⟩;rw[hmod.out]at hru;obtain⟨a5,c5,l5,rfl,h51,h52,h53⟩:=hru;obtain rfl:l5= []:=List.eq_nil_of_length_eq_zero ((a1k h52).2 rfl);have hX5:=hXc.ext hE5;have bb0:=b0.ext0 hE5;have bb1:=b1.ext0 hE5;have bb2:=b2.ext0 hE5;have bb3:=b3.ext0 hE5;clear k00 k01 k10 k11;have k00:=bb0.cell 0 rfl;have k01:=bb0.cell 1 rfl;have k10:=bb1.cell 0 rfl;have k11:=bb1.cell 1 rfl;simp only[List.length_nil];cases s3
  ·
   go_wp2_with fail
   refine(a1D (a0e X b 4) w5 false qu _ hX5 hqu).mono ?_;rintro e w6 ⟨hE6,u6,rfl,s6,a6,c6,l6,rfl,h61,h62,h63⟩;rw[hfin.out]at h62;go_wp2_with fail
   refine(a1D (a0e X b 4) w6 false _ 0 (hX5.ext hE6) (mkx NC.mono ⟨a5,c5,[],rfl,h51,h52,h53⟩ hE6)).mono ?_;rintro e w7 ⟨hE7,u7,rfl,s7,a7,c7,l7,rfl,h71,h72,h73⟩;have d2:=(bb2.ext0 hE6).ext0 hE7;have d3:=(bb3.ext0 hE6).ext0 hE7;have hs7:=h63.mono (a0a.mono _) (a0m hE7);have hE57:=hE1.trans (hE5.trans (hE6.trans hE7));clear k00 k01 k10 k11 h72 h73 h71;go_wp2_with ((with_reducible show wpList _ _ _ (⟨_, .store _ _ _,_,_,_,_⟩::_) _ _);first|(refine a0c a0G rfl rfl d2 rfl rfl (a2R _ _ _ _) ?_;intro w8 r1 r2;have d3':=d3.ext r2 (a0b (by omega)))|(refine a0c a0G rfl rfl d3' rfl rfl (a2R _ _ _ _) ?_;intro w9 r3 r4))
   have r5:=r1.ext r4 (a0b (by omega));have h8:=((hs7.mono (a0a.mono _) (a0i r2 (by omega) (by omega))).mono (a0a.mono _) (a0i r4 (by omega) (by omega))).mono (a0a.mono _) a0k;exact bodyPost_ret (a6c rfl rfl rfl a0G r5 rfl r3 rfl) rfl ⟨ExtX.box (ExtX.box hE57 r2 (by omega)) r4 (by omega),_,_,_,_,_,rfl,s6,a6,c6,l6,rfl,h61,h62,h8⟩
  ·
   go_wp2_with fail
   refine(a1D (a0e X b 4) w5 true qu _ hX5 hqu).mono ?_;rintro e w6 ⟨hE6,u6,rfl,s6,a6,c6,l6,rfl,h61,h62,h63⟩;rw[hfin.out]at h62;go_wp2_with fail
   refine(a1D (a0e X b 4) w6 false _ 0 (hX5.ext hE6) (mkx NC.mono ⟨a5,c5,[],rfl,h51,h52,h53⟩ hE6)).mono ?_;rintro e w7 ⟨hE7,u7,rfl,s7,a7,c7,l7,rfl,h71,h72,h73⟩;have d2:=(bb2.ext0 hE6).ext0 hE7;have d3:=(bb3.ext0 hE6).ext0 hE7;have hs7:=h63.mono (a0a.mono _) (a0m hE7);have hE57:=hE1.trans (hE5.trans (hE6.trans hE7));clear k00 k01 k10 k11 h72 h73 h71;go_wp2_with ((with_reducible show wpList _ _ _ (⟨_, .store _ _ _,_,_,_,_⟩::_) _ _);first|(refine a0c a0G rfl rfl d2 rfl rfl (a2R _ _ _ _) ?_;intro w8 r1 r2;have d3':=d3.ext r2 (a0b (by omega)))|(refine a0c a0G rfl rfl d3' rfl rfl (a2R _ _ _ _) ?_;intro w9 r3 r4))
   have r5:=r1.ext r4 (a0b (by omega));have h8:=((hs7.mono (a0a.mono _) (a0i r2 (by omega) (by omega))).mono (a0a.mono _) (a0i r4 (by omega) (by omega))).mono (a0a.mono _) a0k;exact bodyPost_ret (a6c rfl rfl rfl a0G r5 rfl r3 rfl) rfl ⟨ExtX.box (ExtX.box hE57 r2 (by omega)) r4 (by omega),_,_,_,_,_,rfl,s6,a6,c6,l6,rfl,h61,h62,h8⟩
end Go.Proofs.YtoibhmjjhgaimaaGreat
namespace Go.Lim
end Go.Lim
namespace Go.Proofs.YtoibhmjjhgaimaaGreat
open Go.RowKit Go.Rep Go.Lim
theorem c0Z (X:Nat->Bool) (w:World) (v:Int) (hX:HX X w) (h1: -9223372036854775808<=v) (h2:v<=9223372036854775807):Calls Tryz.prog 166 #[.int .i64 v] w (a1Z X w ZC v):=by
 obtain⟨W,hW,hE,b0,hz⟩:=a1I w #[.bool false, .slice none 0 0] 30;have hXW:HX (a0e X w.heap.size 1) W:=hX.boxes hz;obtain⟨b,hb⟩:∃b,w.heap.size=b:=⟨_,rfl⟩;have hbw:w.heap.size<=b:=by omega
 rw[hb]at b0 hz hXW;have hlt:Hid (v.natAbs<18446744073709551616):=hid (by omega);by_cases hv:v<0
 ·have hn:Hid (sg true v.natAbs=v):=hid (by unfold sg;simp;omega)
  have hvv:Hid (IntKind.u64.wrap (-(IntKind.u64.wrap v))=(v.natAbs:Int)):=hid (by rw[IntKind.wrap_u64,IntKind.wrap_u64];omega);go_enter Tryz.func166,Tryz.ntmps166
  go_wp2_with fail
  rw[hvv.out];refine(b9T (X:=a0e X b 1) hXW hlt.out).mono ?_;rintro e w5 ⟨hE5,u5,rfl,hu5⟩;go_wp2_with fail
  refine(a2L (a0e X b 1) w5 true u5 _ (hXW.ext hE5) hu5).mono ?_;rintro e w6 ⟨hE6,u6,rfl,s6,a6,c6,l6,rfl,h61,h62,h63⟩;rw[hn.out]at h62;have bb0:=(b0.ext0 hE5).ext0 hE6;go_wp2_with ((with_reducible show wpList _ _ _ (⟨_, .store _ _ _,_,_,_,_⟩::_) _ _);refine a0c a0G rfl rfl bb0 rfl rfl (a2R _ _ _ _) ?_;intro w7 r1 r2)
  have h7:=(h63.mono (a0a.mono _) (a0i r2 (by omega) (by omega))).mono (a0a.mono _) a0k;exact bodyPost_ret (a0d rfl rfl a0G r1 rfl) rfl ⟨ExtX.box (hE.trans (hE5.trans hE6)) r2 (by omega),_,rfl,s6,a6,c6,l6,rfl,h61,h62,h7⟩
 ·obtain⟨n,rfl⟩:=Int.eq_ofNat_of_zero_le (show 0<=v by omega)
  have hn:Hid (sg false n=(n:Int)):=hid rfl;have hlt2:Hid (n<18446744073709551616):=hid (by omega);go_enter Tryz.func166,Tryz.ntmps166
  go_wp2_with fail
  refine(b9T (X:=a0e X b 1) hXW hlt2.out).mono ?_;rintro e w5 ⟨hE5,u5,rfl,hu5⟩;go_wp2_with fail
  refine(a2L (a0e X b 1) w5 false u5 n (hXW.ext hE5) hu5).mono ?_;rintro e w6 ⟨hE6,u6,rfl,s6,a6,c6,l6,rfl,h61,h62,h63⟩;have bb0:=(b0.ext0 hE5).ext0 hE6;go_wp2_with ((with_reducible show wpList _ _ _ (⟨_, .store _ _ _,_,_,_,_⟩::_) _ _);refine a0c a0G rfl rfl bb0 rfl rfl (a2R _ _ _ _) ?_;intro w7 r1 r2)
  have h7:=(h63.mono (a0a.mono _) (a0i r2 (by omega) (by omega))).mono (a0a.mono _) a0k;exact bodyPost_ret (a0d rfl rfl a0G r1 rfl) rfl ⟨ExtX.box (hE.trans (hE5.trans hE6)) r2 (by omega),_,rfl,s6,a6,c6,l6,rfl,h61,h62,h7⟩
end Go.Proofs.YtoibhmjjhgaimaaGreat
namespace Go.Rep
open Go.RowKit Go.Lim
def QV (h:Mem) (u:Value) (q:Rat):Prop:=∃s ao c m bo e d,u= .agg #[.bool s, .slice ao m.length c, .slice bo d.length e]/\m.length<=c/\d.length<=e/\Dig m/\Dig d/\m.length<=68719476736/\d.length<=68719476736/\Sl (a0a .u32) 1 h ao m/\Sl (a0a .u32) 1 h bo d/\b3g s m d=q
def QC (h:Mem) (u:Value) (q:Rat):Prop:=∃s ao c m bo e d,u= .agg #[.bool s, .slice ao m.length c, .slice bo d.length e]/\m.length<=c/\d.length<=e/\a6i s m d q/\Sl (a0a .u32) 1 h ao m/\Sl (a0a .u32) 1 h bo d
theorem QV.mono:a4N QV:=by rintro h h' u x hl ⟨s,ao,c,m,bo,e,d,rfl,h1,h2,h3,h4,h5,h6,h7,h8,h9⟩;exact⟨s,ao,c,m,bo,e,d,rfl,h1,h2,h3,h4,h5,h6,h7.mono (a0a.mono _) hl,h8.mono (a0a.mono _) hl,h9⟩
theorem QC.mono:a4N QC:=by rintro h h' u x hl ⟨s,ao,c,m,bo,e,d,rfl,h1,h2,h3,h7,h8⟩;exact⟨s,ao,c,m,bo,e,d,rfl,h1,h2,h3,h7.mono (a0a.mono _) hl,h8.mono (a0a.mono _) hl⟩
theorem b3A (q:Rat):lg (dn q)<=hq q:=b7Q q
theorem QC.qv {h:Mem} {u:Value} {q:Rat} (hu:QC h u q) (hn:hq q<=68719476736):QV h u q:=by
 obtain⟨s,ao,c,m,bo,e,d,rfl,h1,h2,h3,h7,h8⟩:=hu;have a1:=a0F q;have a2:=b3A q;exact⟨s,ao,c,m,bo,e,d,rfl,h1,h2,h3.1.2.1,h3.2.1,by rw[h3.1.len];omega,by rw[h3.2.len];omega,h7,h8,h3.val⟩
theorem QC.zero (h:Mem):QC h (.agg #[.bool false, .slice none 0 0, .slice none 0 0]) 0:=⟨false,none,0,[],none,0,[],rfl,Nat.le_refl _,Nat.le_refl _,a6i.zero,Sl.nil _ _ _ _,Sl.nil _ _ _ _⟩
theorem QV.hq {h:Mem} {u:Value} {q:Rat} (hu:QV h u q):hq q<=68719476736:=by
 obtain⟨s,ao,c,m,bo,e,d,rfl,h1,h2,h3,h4,h5,h6,h7,h8,rfl⟩:=hu;exact a9F s m d _ h3 h4 h5 h6 (by omega)
theorem QV.elem:Elem QV 3:=⟨QV.mono,by rintro h u x ⟨s,ao,c,m,bo,e,d,rfl,_⟩;rfl,by
 rintro h u x ⟨s,ao,c,m,bo,e,d,rfl,_⟩ v hv;simp[a0g,Value.cells]at hv;rcases hv with rfl|rfl|rfl<;>rfl,by decide⟩
theorem QC.elem:Elem QC 3:=⟨QC.mono,by rintro h u x ⟨s,ao,c,m,bo,e,d,rfl,_⟩;rfl,by
 rintro h u x ⟨s,ao,c,m,bo,e,d,rfl,_⟩ v hv;simp[a0g,Value.cells]at hv;rcases hv with rfl|rfl|rfl<;>rfl,by decide⟩
theorem QC.num {h:Mem} {s:Bool} {ao bo:Option Addr} {n c k e:Nat} {q:Rat} (hu:QC h (.agg #[.bool s, .slice ao n c, .slice bo k e]) q):ZC h (.agg #[.bool s, .slice ao n c]) q.num/\NC h (.slice ao n c) q.num.natAbs/\NC h (.slice bo k e) (dn q):=by
 obtain⟨_,_,_,m,_,_,d,heq,h1,h2,h3,h7,h8⟩:=hu;simp only[Value.agg.injEq,Array.mk.injEq,List.cons.injEq,Value.bool.injEq,Value.slice.injEq,and_true]at heq;obtain⟨rfl,⟨rfl,rfl,rfl⟩,rfl,rfl,rfl⟩:=heq;exact⟨⟨_,_,_,_,rfl,h1,h3.1,h7⟩,⟨_,_,_,rfl,h1,h3.1.2,h7⟩,⟨_,_,_,rfl,h2,h3.2,h8⟩⟩
theorem QC.shape {h:Mem} {u:Value} {q:Rat} (hu:QC h u q):∃s ao n c bo k e,u= .agg #[.bool s, .slice ao n c, .slice bo k e]:=by
 obtain⟨s,ao,c,m,bo,e,d,rfl,_⟩:=hu;exact⟨_,_,_,_,_,_,_,rfl⟩
theorem QV.shape {h:Mem} {u:Value} {q:Rat} (hu:QV h u q):∃s ao n c bo k e,u= .agg #[.bool s, .slice ao n c, .slice bo k e]:=by
 obtain⟨s,ao,c,m,bo,e,d,rfl,_⟩:=hu;exact⟨_,_,_,_,_,_,_,rfl⟩
theorem QC.of {h:Mem} {s:Bool} {ao bo:Option Addr} {n c k e:Nat} {q:Rat} (h1:ZC h (.agg #[.bool s, .slice ao n c]) q.num) (h2:NC h (.slice bo k e) (dn q)):QC h (.agg #[.bool s, .slice ao n c, .slice bo k e]) q:=by
 obtain⟨_,_,_,m,heq,a1,a2,a3⟩:=h1;simp only[Value.agg.injEq,Array.mk.injEq,List.cons.injEq,Value.bool.injEq,Value.slice.injEq,and_true]at heq;obtain⟨rfl,rfl,rfl,rfl⟩:=heq;obtain⟨_,_,d,heq,b1,b2,b3⟩:=h2;simp only[Value.slice.injEq]at heq;obtain⟨rfl,rfl,rfl⟩:=heq;exact⟨_,_,_,_,_,_,_,rfl,a1,b1,⟨a2,b2⟩,a3,b3⟩
theorem NC.len0 {h:Mem} {ao:Option Addr} {n c k:Nat} (hu:NC h (.slice ao n c) k):n=0↔k=0:=by
 obtain⟨_,_,d,heq,b1,b2,b3⟩:=hu;simp only[Value.slice.injEq]at heq;obtain⟨rfl,rfl,rfl⟩:=heq;exact a1k b2
theorem a4a (q:Rat):dn q=0↔q.den=1:=by
 unfold dn;split
 ·simp[*]
 ·have:=q.den_nz;omega
end Go.Rep
namespace Go.Proofs.YtoibhmjjhgaimaaGreat
open Go.RowKit Go.Rep Go.Lim
theorem a0w:a2J Tryz.prog 32 3:=by
 have h:(Tryz.prog.info? 32).map (fun i=>(i.zero,i.size,i.bytes))=some (some (.agg #[.bool false, .slice none 0 0, .slice none 0 0]),3,56):=by kernel_rfl
 obtain⟨ti,h1,_,h2,_⟩:=info_parts h;exact⟨_,ti,Tryz.underlying32,h1,h2⟩
theorem a2C (s:Bool) (ao bo:Option Addr) (n c k e:Nat):∀v∈(#[Value.bool s, .slice ao n c, .slice bo k e]:Array Value).toList,v.oneCell'=true:=by
 intro v hv;simp at hv;rcases hv with rfl|rfl|rfl<;>rfl
theorem c0L (X:Nat->Bool) (w:World) (hX:HX X w):Calls Tryz.prog 208 #[] w (a1Z X w NC 1):=by
 have h:=NC.lit hX 1 110 (by omega) (by omega);have hE:Ext w (w.alloc (.cells #[.int .u32 ((1:Nat):Int)] 110)):=(ExtX.refl w).alloc _;go_enter Tryz.func208,Tryz.ntmps208
 go_wp2_with fail
 go_ret
 exact⟨hE,_,rfl,h⟩
theorem b0V (X:Nat->Bool) (w:World) (u:Value) (q:Rat) (hX:HX X w) (hu:QC (mk X w) u q):Calls Tryz.prog 146 #[u] w (a1Z X w NC q.den):=by
 obtain⟨s,ao,n,c,bo,k,e,rfl⟩:=hu.shape;obtain⟨W,hW,hE,b0,hz⟩:=a1I w #[.bool s, .slice ao n c, .slice bo k e] 32;have hXW:HX X W:=hX.ext hE;have hd:=mkx NC.mono hu.num.2.2 hE;have hl:=hd.len0;rw[a4a]at hl;obtain⟨b,hb⟩:∃b,w.heap.size=b:=⟨_,rfl⟩;rw[hb]at b0 hz;have k02:=b0.cell 2 rfl;by_cases h0:k=0
 ·have hf:=hid (hl.1 h0)
  subst h0;clear hl hd;go_enter Tryz.func146,Tryz.ntmps146
  go_wp2_with fail
  refine(c0L X W hXW).mono ?_;rintro e w5 ⟨hE5,u5,rfl,hu5⟩;go_wp2_with fail
  go_ret
  exact⟨hE.trans hE5,_,rfl,by rw[hf.out];exact hu5⟩
 ·have hf:Hid (dn q=q.den):=hid (by unfold dn;rw[if_neg (fun h=>h0 (hl.2 h))])
  have hI:((k:Int)==0)=false:=a1S (by omega);clear hl h0;go_enter Tryz.func146,Tryz.ntmps146
  go_wp2_with fail
  go_ret
  exact⟨hE,_,rfl,by rw[<-hf.out];exact hd⟩
end Go.Proofs.YtoibhmjjhgaimaaGreat
namespace Go.Rep
open Go.RowKit Go.Lim
theorem QV.agg:∀h u y,QV h u y->∃cs,u= .agg cs:=by rintro h u x ⟨s,ao,c,m,bo,e,d,rfl,_⟩;exact⟨_,rfl⟩
theorem QC.agg:∀h u y,QC h u y->∃cs,u= .agg cs:=by rintro h u x ⟨s,ao,c,m,bo,e,d,rfl,_⟩;exact⟨_,rfl⟩
def b0W (R:Mem->Value->Rat->Prop):Prop:=∀h u q,R h u q->∃s ao n c bo k e,u= .agg #[.bool s, .slice ao n c, .slice bo k e]
theorem QC.shaped:b0W QC:=fun _ _ _ h=>h.shape
theorem QV.shaped:b0W QV:=fun _ _ _ h=>h.shape
theorem Sl.rat {R:Mem->Value->Rat->Prop} (hR:b0W R) {X:Nat->Bool} {w:World} {ao:Option Addr} {l:List Rat} (s:Sl R 3 (mk X w) ao l) (i:Nat) (hi:i<l.length):
  ∃g o sg a n c d k e,adr ao (i*3)=⟨g,o,none⟩/\X g=false/\Hid (∀Y W',ExtX Y w W'->Y g=false->W'.cell? ⟨g,o,none⟩=some (.bool sg)/\W'.cell? ⟨g,o+1,none⟩=some (.slice a n c)/\W'.cell? ⟨g,o+2,none⟩=some (.slice d k e))/\R (mk X w) (.agg #[.bool sg, .slice a n c, .slice d k e]) l[i]:=by
 obtain⟨u,h1,h2,h3⟩:=s.2 i hi;obtain⟨sg,a,n,c,d,k,e,rfl⟩:=hR _ _ _ h3;have c0:=h2 0 (by simp[Value.cells]);have c1:=h2 1 (by simp[Value.cells]);have c2:=h2 2 (by simp[Value.cells]);refine⟨(adr ao (i*3)).block,(adr ao (i*3)).off,sg,a,n,c,d,k,e,rfl,?_,hid fun Y W' hE hY=>⟨?_,?_,?_⟩,h3⟩
 ·cases hx:X (adr ao (i*3)).block
  ·rfl
  ·have c9:mk X w (adr ao (i*3))=some (.bool sg):=c0
   simp[mk,hx]at c9
 ·exact hE.cellY (a1u c0) hY
 ·exact hE.cellY (a1u c1) hY
 ·exact hE.cellY (a1u c2) hY
abbrev RC:Mem->Value->List Rat->Prop:=SlV QC 3
abbrev RV:Mem->Value->List Rat->Prop:=SlV QV 3
abbrev MC:Mem->Value->List (List Rat)->Prop:=SlV RC 1
abbrev MV:Mem->Value->List (List Rat)->Prop:=SlV RV 1
theorem RC.mono:a4N RC:=SlV.mono QC.mono 3
theorem RV.mono:a4N RV:=SlV.mono QV.mono 3
theorem MC.mono:a4N MC:=SlV.mono RC.mono 1
theorem MV.mono:a4N MV:=SlV.mono RV.mono 1
theorem RC.elem:Elem RC 1:=SlV.elem QC.elem
theorem RV.elem:Elem RV 1:=SlV.elem QV.elem
def BR (B:Nat) (l:List Rat):Prop:=∀q∈l,hq q<=B
def BM (B:Nat) (m:List (List Rat)):Prop:=∀r∈m,BR B r
theorem Sl.qv {h:Mem} {ao:Option Addr} {l:List Rat} (s:Sl QC 3 h ao l) (hb:BR 68719476736 l):Sl QV 3 h ao l:=
 ⟨s.1,fun i hi=>let ⟨u,h1,h2,h3⟩:=s.2 i hi;⟨u,h1,h2,h3.qv (hb _ (List.getElem_mem _))⟩⟩
theorem RC.rv {h:Mem} {u:Value} {l:List Rat} (s:RC h u l) (hb:BR 68719476736 l):RV h u l:=by
 obtain⟨ao,c,rfl,h1,h2⟩:=s;exact⟨ao,c,rfl,h1,h2.qv hb⟩
theorem MC.mv {h:Mem} {u:Value} {m:List (List Rat)} (s:MC h u m) (hb:BM 68719476736 m):MV h u m:=by
 obtain⟨ao,c,rfl,h1,h2,h3⟩:=s;exact⟨ao,c,rfl,h1,h2,fun i hi=>let ⟨u,k1,k2,k3⟩:=h3 i hi;⟨u,k1,k2,RC.rv k3 (hb _ (List.getElem_mem _))⟩⟩
theorem Sl.row {R:Mem->Value->Rat->Prop} {X:Nat->Bool} {w:World} {ao:Option Addr} {m:List (List Rat)} (s:Sl (SlV R 3) 1 (mk X w) ao m) (i:Nat) (hi:i<m.length):
  ∃a c,X (adr ao i).block=false/\Hid (∀Y W',ExtX Y w W'->Y (adr ao i).block=false->W'.cell? (adr ao i)=some (.slice a m[i].length c))/\m[i].length<=c/\Sl R 3 (mk X w) a m[i]:=by
 obtain⟨u,h1,a,c,rfl,h2,h3⟩:=s.cell SlV.one i hi;refine⟨a,c,?_,hid fun Y W' hE hY=>hE.cellY (a1u h1) hY,h2,h3⟩;cases hx:X (adr ao i).block
 ·rfl
 ·simp[mk,hx]at h1
end Go.Rep
namespace Go.Proofs.YtoibhmjjhgaimaaGreat
open Go.RowKit Go.Rep Go.Lim
theorem a0J:SliceT Tryz.prog 45 32 3 56 (.agg #[.bool false, .slice none 0 0, .slice none 0 0]):=⟨Tryz.underlying45,by kernel_rfl⟩
theorem a0o:SliceT Tryz.prog 25 45 1 24 (.slice none 0 0):=⟨Tryz.underlying25,by kernel_rfl⟩
theorem b8n:(Tryz.prog.info? 45).map (fun i=>(i.zero,i.size,i.bytes))=some (some (.slice none 0 0),1,24):=by kernel_rfl
theorem a4H:TyI Tryz.prog 45 1:=let ⟨i,h,_,h2,_⟩:=info_parts b8n;⟨i,h,h2⟩
theorem a5N:TyI Tryz.prog 32 3:=let ⟨_,ti,_,h2,h3⟩:=a0w;⟨ti,h2,h3⟩
end Go.Proofs.YtoibhmjjhgaimaaGreat
namespace Go.Lin
open Go.Lim
def a6j (l m:List Rat):Nat->Rat
 |0=>0
 |k+1=>a6j l m k+l.getD k 0*m.getD k 0
def b0X (l m:List Rat):Rat:=a6j l m l.length
theorem b8o (l m:List Rat) (k:Nat):a6j l m k=sm k fun q=>l.getD q 0*m.getD q 0:=by
 induction k with
 |zero=>rfl
 |succ k ih=>unfold a6j sm;rw[ih]
noncomputable def b2y (m:Mat) (n:Nat):Rat:=if(eN m n).2.2 then - pr n (fun i=>ent (eN m n).1 i i)else pr n (fun i=>ent (eN m n).1 i i)
theorem b5L {n:Nat} {m:Mat} (hn:n<=4) (hs:Shp n n m):b2y m n=det n (ent m):=by
 have hk:=a4z hs n;have h1:=hk.ech.det hn;have h2:=hk.re.det_same hn;unfold b2y;rw[<-h1,h2];split<;>grind
theorem b9Y {B:Nat} {f:Nat->Rat} (h:∀i,hq (f i)<=B) (n:Nat):hq (pr n f)<=1+n*B:=by
 induction n with
 |zero=>
  show hq 1<=_
  have h3:hq 1=1:=by decide+kernel
  omega
 |succ n ih=>
  have h1:=hq_mul (pr n f) (f n);have h2:=h n
  show hq (pr n f*f n)<=_
  rw[Nat.add_mul,Nat.one_mul];omega
noncomputable def b8p (m:Mat) (c:Nat):Nat:=(eN m c).2.1.length
theorem b3B (m:Mat) (c:Nat):b8p m c=(a0N m c).2.length:=rfl
end Go.Lin
namespace Go.Rep
open Go.RowKit
theorem a7B {α:Type} {R:Mem->Value->α->Prop} (hR:a4N R) {X:Nat->Bool} {w w':World} {oo:Option Addr} {u:Value} {x:α} (h:R (mk X w) u x) (hE:Ext w w') (hb:∀j,j<w.heap.size->ob oo j=false):R (mk (un X oo) w') u x:=
 hR _ _ _ _ (a1g hE (fun k _ hk=>by simp[noY]at hk) fun j hk hz=>by simpa[un,hb j hk]using hz) h
section
variable {P:Program} {ops:Array Oper} {Q:Exit->Act->World->Prop} {a:Act} {w:World}
variable {α:Type} {R:Mem->Value->α->Prop} {sz:Nat} {X:Nat->Bool} {base:Nat} {e:TypeId} {ao:Option Addr} {cap:Nat} {l:List α}
theorem a1J {o:Oper} {K:Act->World->Prop} {E:Prop} {t by_:Nat} {z:Value} {arr:Array Value} {s x:Operand}
  (hg:o.guard=none) (hop:o.op=Op.call {callee:=Callee.builtin Builtin.append,args:=#[s,x],argTypes:=#[t,t]}) (T:SliceT P t e sz by_ z) (hzs:z.cells.size=sz) (hR:Elem R sz) (hbase:base<=w.heap.size) (hX:∀k,X k=true->k<w.heap.size) (n:Nat) (hn:l.length=n)
  (hs:a.eval s= .slice ao n cap) (hx:a.eval x= .slice (some ⟨w.heap.size,0,none⟩) 1 1) (h:OL R sz X base e w ao cap l)
  (u:Value) (y:α) (harr:arr=u.cells) (hu:R (mk (un X ao) w) u y) (hroom:(n+1)*by_<=140737488355328) (hmax:n+1<=9223372036854775807)
  (hK:∀ao' cap' w',OL R sz X base e w' ao' cap' (l++[y])->ExtX (ob ao) w w'->(ao'=ao\/∃g,ao'=some ⟨g,0,none⟩/\w.heap.size<=g)->K (a.put o.dst (.slice ao' (n+1) cap')) w'):
  if Region.wanted o (yielded ops a.tmps)=true then Oper.wp P o a (w.alloc (.cells arr e)) K Q else E:=by
 have hw:Region.wanted o (yielded ops a.tmps)=true:=by simp[Region.wanted,hg]
 rw[if_pos hw];subst hn;have hE:Ext w (w.alloc (.cells arr e)):=(ExtX.refl w).alloc _;have hsz:w.heap.size+1=(w.alloc (.cells arr e)).heap.size:=by simp
 obtain⟨ao',cap',w',hr,h2,h3,h4⟩:=(h.ext0 hR hE).run_append (P:=P) T hzs hR (by omega) (fun k hk=>by have:=hX k hk;omega) (some ⟨w.heap.size,0,none⟩) 1 [u] [y] (b3j w arr e u harr) rfl
  (fun i hi _=>by
           have:i=0:=by simpa using hi
           subst this;exact hR.mono _ _ _ _ (a0m hE) hu) (by simpa using hroom) (by simpa using hmax) o.type
 unfold Oper.wp execOp;rw[hop];simp only[resolve,invoke,builtin,Sem.run_bind,Sem.run_pure,Result.andThen_ok,List.map_toArray,List.map_cons,List.map_nil,hs,hx];rw[show([y]:List α).length=1 from rfl]at hr;rw[hr];have:=hK ao' cap' w' h2 ((ExtX.of hE).trans h3) (by
  rcases h4 with h4|⟨g,h4,h5⟩
  ·exact .inl h4
  ·exact .inr ⟨g,h4,by omega⟩)
 rw[show(l++[y]).length=l.length+1 from by simp];exact this
end
end Go.Rep
namespace Go.Lim
theorem a8o (a b:Nat):(a3C a b==0)=decide (a=b):=by
 rw[Bool.eq_iff_iff];simp only[beq_iff_eq,decide_eq_true_eq];exact b7O a b
end Go.Lim
namespace Go.Proofs.YtoibhmjjhgaimaaGreat
open Go.RowKit Go.Rep Go.Lim
set_option maxRecDepth 100000 in
theorem b7i (X:Nat->Bool) (w:World) (s:Bool) (ao bo:Option Addr) (c e:Nat) (m d:List Nat) (hX:HX X w) (hm:Sl (a0a .u32) 1 (mk X w) ao m) (hd:Sl (a0a .u32) 1 (mk X w) bo d) (hml:m.length<=68719476736) (hdl:d.length<=68719476736) (hmd:Dig m) (hdd:Dig d) (hmc:m.length<=c) (hdc:d.length<=e):
  Calls Tryz.prog 204 #[.agg #[.bool s, .slice ao m.length c, .slice bo d.length e]] w (a7A w (a1t s m d)):=by
 obtain⟨W,hW,hE,b0,hz⟩:=a1I w #[.bool s, .slice ao m.length c, .slice bo d.length e] 32;have hXW:HX X W:=hX.ext hE;have hmW:=hm.mono (a0a.mono _) (a0m hE);have hdW:=hd.mono (a0a.mono _) (a0m hE);obtain⟨b,hb⟩:∃b,w.heap.size=b:=⟨_,rfl⟩;rw[hb]at b0 hz;have k00:=b0.cell 0 rfl;have k01:=b0.cell 1 rfl;have k02:=b0.cell 2 rfl;have hdef:Hid (a1t s m d=(a1o s m&&a1x d&&(decide (d.length=0)||(decide (0<m.length)&& !(nv d==1)&&(Nat.gcd (nv m) (nv d)==1))))):=hid rfl;clear hX hm hd hz;cases hv:a1o s m
 ·have hf:Hid (a1t s m d=false):=hid (by rw[hdef.out,hv];rfl)
  have hv':=hid hv;clear hv hdef;go_enter Tryz.func204,Tryz.ntmps204
  go_wp2_with fail
  refine(a7x X W s ao c m hmW (by omega)).mono ?_;rintro e w1 ⟨hE1,rfl⟩;rw[hv'.out];clear k00 k01 k02;go_wp2_with fail
  go_ret
  exact⟨hE.trans hE1,a0p hf.out.symm⟩
 ·cases hl:a1x d
  ·have hf:Hid (a1t s m d=false):=hid (by rw[hdef.out,hv,hl];rfl)
   have hv':=hid hv;have hl':=hid hl;clear hv hdef hl;go_enter Tryz.func204,Tryz.ntmps204
   go_wp2_with fail
   refine(a7x X W s ao c m hmW (by omega)).mono ?_;rintro e w1 ⟨hE1,rfl⟩;rw[hv'.out];have j02:=(b0.ext0 hE1).cell 2 rfl;have hd1:=hdW.mono (a0a.mono _) (a0m hE1);clear k00 k01 k02;go_wp2_with fail
   refine(a2f X _ _ _ _ hd1 (by omega)).mono ?_;rintro e w2 ⟨rfl,rfl⟩;rw[hl'.out];clear j02;go_wp2_with fail
   go_ret
   exact⟨hE.trans hE1,a0p hf.out.symm⟩
  ·have hf:Hid (a1t s m d=(decide (d.length=0)||(decide (0<m.length)&& !(nv d==1)&&(Nat.gcd (nv m) (nv d)==1)))):=hid (by rw[hdef.out,hv,hl];rfl)
   have hv':=hid hv;have hl':=hid hl;have hmv:a1x m=true:=by unfold a1o at hv;simp at hv;exact hv.1
   have hcm:=hid (show a0K m (nv m)from⟨hmd,hmv,rfl⟩);have hcd:=hid (show a0K d (nv d)from⟨hdd,hl,rfl⟩);clear hv hdef hl hmv;by_cases h0:d.length=0
   ·have hf2:Hid (a1t s m d=true):=hid (by rw[hf.out,decide_eq_true h0];rfl)
    obtain rfl:d= []:=List.eq_nil_of_length_eq_zero h0;clear h0 hf;simp only[List.length_nil]at hW b0 k02 |-;go_enter Tryz.func204,Tryz.ntmps204
    go_wp2_with fail
    refine(a7x X W s ao c m hmW (by omega)).mono ?_;rintro e w1 ⟨hE1,rfl⟩;rw[hv'.out];have j02:=(b0.ext0 hE1).cell 2 rfl;have hd1:=hdW.mono (a0a.mono _) (a0m hE1);clear k00 k01 k02;go_wp2_with fail
    refine(a2f X _ [] _ _ hd1 (by simp)).mono ?_;rintro e w2 ⟨rfl,rfl⟩;rw[hl'.out];go_wp2_with fail
    go_ret
    exact⟨hE.trans hE1,a0p hf2.out.symm⟩
   ·have hdI:((d.length:Int)==0)=false:=a1S (by omega)
    have hfd:Hid (a1t s m d=(decide (0<m.length)&& !(nv d==1)&&(Nat.gcd (nv m) (nv d)==1))):=hid (by rw[hf.out,decide_eq_false h0];rfl);clear hf;go_enter Tryz.func204,Tryz.ntmps204
    go_wp2_with fail
    refine(a7x X W s ao c m hmW (by omega)).mono ?_;rintro e' w1 ⟨hE1,rfl⟩;rw[hv'.out];have b1:=b0.ext0 hE1;have j02:=b1.cell 2 rfl;have j01:=b1.cell 1 rfl;have hd1:=hdW.mono (a0a.mono _) (a0m hE1);have hm1:=hmW.mono (a0a.mono _) (a0m hE1);have hX1:=hXW.ext hE1;have hmn:NV (mk X w1) (.slice ao m.length c) (nv m):=⟨ao,c,m,rfl,hmc,hmd,by omega,hm1,by unfold val;rw[a0K.vl hcm.out]⟩;have hdn:NV (mk X w1) (.slice bo d.length e) (nv d):=⟨bo,e,d,rfl,hdc,hdd,by omega,hd1,by unfold val;rw[a0K.vl hcd.out]⟩;clear k00 k01 k02;have hB:=hid b1;have hEd:Ext w1 w1.drew:=(ExtX.refl w1).drew;have hXd:HX X w1.drew:=hX1;have hdnd:NV (mk X w1.drew) (.slice bo d.length e) (nv d):=hdn;by_cases hm0:m.length=0
    ·have hf2:Hid (a1t s m d=false):=hid (by rw[hfd.out,decide_eq_false (by omega)];rfl)
     obtain rfl:m= []:=List.eq_nil_of_length_eq_zero hm0;clear hfd hm0 h0;simp only[List.length_nil]at b1 j01 hB |-;go_wp2_with fail
     refine(a2f X _ _ _ _ hd1 (by omega)).mono ?_;rintro e' w2 ⟨rfl,rfl⟩;rw[hl'.out];go_wp2_with fail
     try go_quiet (fail)
     go_wp2_with fail
     go_ret
     exact⟨hE.trans (hE1.trans ((ExtX.refl w1).drewN _)),a0p hf2.out.symm⟩
    ·have hmI:((m.length:Int)==0)=false:=a1S (by omega)
     have hfm:Hid (a1t s m d=(!(nv d==1)&&(Nat.gcd (nv m) (nv d)==1))):=hid (by rw[hfd.out,decide_eq_true (by omega)];rfl);clear hfd hm0 h0;go_wp2_with fail
     refine(a2f X _ _ _ _ hd1 (by omega)).mono ?_;rintro e' w2 ⟨rfl,rfl⟩;rw[hl'.out];go_wp2_with fail
     go_region_held3 (fun w'=>w'.cell? ⟨b,1,none⟩=some (.slice ao m.length c)/\w'.cell? ⟨b,2,none⟩=some (.slice bo d.length e))
      (first|exact⟨(hB.out.ext0 (hEd.trans hE5)).cell 1 rfl,(hB.out.ext0 (hEd.trans hE5)).cell 2 rfl⟩|exact⟨(hB.out.ext0 (hEd.trans (hE5.trans hE6))).cell 1 rfl,(hB.out.ext0 (hEd.trans (hE5.trans hE6))).cell 2 rfl⟩|go_keep)
      (first|(go_at_call 208;(with_reducible refine(c0L X w1.drew hXd).mono ?_);rintro e5 w5 ⟨hE5,u5,rfl,hu5⟩;have hu5n:=hu5.nv (by rw[a3z];decide))|(go_at_call 124;(with_reducible refine(c0W (mkx NV.mono hdnd hE5) hu5n).mono ?_);rintro e6 w6 ⟨hE6,rfl⟩))
     have hE6':=hEd.trans (hE5.trans hE6);have b6:=hB.out.ext0 hE6';have hm6:=mkx NV.mono hmn hE6';have hd6:=mkx NV.mono hdn hE6';have hX6:=hX1.ext hE6';clear j01 j02;have j01:=b6.cell 1 rfl;have j02:=b6.cell 2 rfl;rw[a8o];by_cases h1:nv d=1
     ·have hf2:Hid (a1t s m d=false):=hid (by rw[hfm.out,h1];rfl)
      have hI1:decide (nv d=1)=true:=decide_eq_true h1;rw[hI1];clear h1 hI1 hfm;go_wp2_with fail
      go_ret
      exact⟨hE.trans (hE1.trans hE6'),a0p hf2.out.symm⟩
     ·have hf2:Hid (a1t s m d=decide (Nat.gcd (nv m) (nv d)=1)):=hid (by
       rw[hfm.out,Bool.eq_iff_iff];simp[h1])
      have hI1:decide (nv d=1)=false:=decide_eq_false h1;rw[hI1];clear h1 hI1 hfm;go_wp2_with fail
      refine(c1D hX6 hm6 hd6).mono ?_;rintro e7 w7 ⟨hE7,u7,rfl,hu7⟩;have hX7:=hX6.ext hE7;have hg7:lg (Nat.gcd (nv m) (nv d))<=1099511627776:=by
       have h1:Nat.gcd (nv m) (nv d)<=nv d\/nv d=0:=by
        by_cases h:nv d=0
        ·exact .inr h
        ·exact .inl (Nat.gcd_le_right _ (by omega))
       rcases h1 with h1|h1
       ·exact Nat.le_trans (a1f h1) hdn.lg
       ·rw[h1,Nat.gcd_zero_right];exact hmn.lg
      have hg7':=hid hg7;clear j01 j02 hg7;go_wp2_with fail
      refine(c0L X w7 hX7).mono ?_;rintro e8 w8 ⟨hE8,u8,rfl,hu8⟩;have h7n:=mkx NV.mono (hu7.nv hg7'.out) hE8;go_wp2_with fail
      refine(c0W h7n (hu8.nv (by rw[a3z];decide))).mono ?_;rintro e9 w9 ⟨hE9,rfl⟩;have hcq:Hid ((a3C (Nat.gcd (nv m) (nv d)) 1==0)=a1t s m d):=hid (by rw[a8o,hf2.out]);generalize a3C (Nat.gcd (nv m) (nv d)) 1=cc at*;go_wp2_with fail
      go_ret
      exact⟨hE.trans (hE1.trans (hE6'.trans (hE7.trans (hE8.trans hE9)))),a0p hcq.out⟩
set_option maxRecDepth 100000 in
theorem a6d (X:Nat->Bool) (w:World) (u:Value) (q:Rat) (hX:HX X w) (hu:QV (mk X w) u q):Calls Tryz.prog 143 #[u] w (a1Z X w QC q):=by
 obtain⟨s,ao,c,m,bo,e,d,rfl,h1,h2,h3,h4,h5,h6,h7,h8,rfl⟩:=hu;obtain⟨W,hW,hE,b0,b1,hz⟩:=a2a w #[.bool s, .slice ao m.length c, .slice bo d.length e] #[.bool false, .slice none 0 0, .slice none 0 0] 32 32;have hXW:HX (a0e X w.heap.size 2) W:=hX.boxes hz;have hs1:Sl (a0a .u32) 1 (mk (a0e X w.heap.size 2) W) ao m:=h7.mono (a0a.mono _) (a0q hE);have hs2:Sl (a0a .u32) 1 (mk (a0e X w.heap.size 2) W) bo d:=h8.mono (a0a.mono _) (a0q hE);obtain⟨b,hb⟩:∃b,w.heap.size=b:=⟨_,rfl⟩;have hbw:w.heap.size<=b:=by omega
 rw[hb]at b0 b1 hz hs1 hs2 hXW;have c0:=b0.cell 0 rfl;have c1:=b0.cell 1 rfl;have c2:=b0.cell 2 rfl;cases hv:a1t s m d
 ·have hz0:=hid (a3M hv)
  have hv':=hid hv;clear hv;go_enter Tryz.func143,Tryz.ntmps143
  go_wp2_with fail
  refine(b7i (a0e X b 2) W s ao bo c e m d hXW hs1 hs2 h5 h6 h3 h4 h1 h2).mono ?_;rintro e1 w1 ⟨hE1,rfl⟩;rw[hv'.out];have b1':=b1.ext0 hE1;clear c0 c1 c2;go_wp2_with ((with_reducible show wpList _ _ _ (⟨_, .store _ _ _,_,_,_,_⟩::_) _ _);refine a0c a0w rfl rfl b1' rfl rfl (a2C _ _ _ _ _ _ _) ?_;intro w2 b2 hE2)
  exact bodyPost_ret (a0d rfl rfl a0w b2 rfl) rfl ⟨ExtX.box (hE.trans hE1) hE2 (by omega),_,rfl,by rw[hz0.out];exact QC.zero _⟩
 ·have hv':=hid hv
  clear hv;go_enter Tryz.func143,Tryz.ntmps143
  go_wp2_with fail
  refine(b7i (a0e X b 2) W s ao bo c e m d hXW hs1 hs2 h5 h6 h3 h4 h1 h2).mono ?_;rintro e1 w1 ⟨hE1,rfl⟩;rw[hv'.out];have b0':=b0.ext0 hE1;have b1':=b1.ext0 hE1;clear c0 c1 c2;have c0:=b0'.cell 0 rfl;have c1:=b0'.cell 1 rfl;have c2:=b0'.cell 2 rfl;go_wp2_with ((with_reducible show wpList _ _ _ (⟨_, .store _ _ _,_,_,_,_⟩::_) _ _);refine a0c a0w rfl rfl b1' rfl rfl (a2C _ _ _ _ _ _ _) ?_;intro w2 b2 hE2)
  have hs3:=((hs1.mono (a0a.mono _) (a0m hE1)).mono (a0a.mono _) (a0i hE2 (by omega) (by omega))).mono (a0a.mono _) a0k;have hs4:=((hs2.mono (a0a.mono _) (a0m hE1)).mono (a0a.mono _) (a0i hE2 (by omega) (by omega))).mono (a0a.mono _) a0k;exact bodyPost_ret (a0d rfl rfl a0w b2 rfl) rfl ⟨ExtX.box (hE.trans hE1) hE2 (by omega),_,rfl,s,ao,c,m,bo,e,d,rfl,h1,h2,a6i.of_valid h3 h4 hv'.out,hs3,hs4⟩
theorem _root_.Go.Rep.NC.asZ {M:Mem} {u:Value} {n:Nat} (hu:NC M u n) (hn:lg n<=549755813888):∃ao k c,u= .slice ao k c/\ZV M (.agg #[.bool false, .slice ao k c]) (n:Int):=by
 obtain⟨ao,c,l,rfl,h1,h2,h3⟩:=hu;refine⟨ao,_,c,rfl,false,ao,c,l,rfl,h1,h2.1,by rw[h2.len];exact hn,h3,?_⟩;unfold a7Z a1o;rw[h2.2.1,h2.2.2];simp
theorem a2n {X:Nat->Bool} {w w6:World} {b nb:Nat} {x0 x1 x2 y0 y1 y2:Value} {T U:TypeId} (h0:Bx w6 b #[x0,x1,x2] T) (h1:Bx w6 (b+1) #[y0,y1,y2] U) (hE:Ext w w6) (hb:w.heap.size<=b) (hn:2<=nb) (v0 v1 v2 u0 u1 u2:Value):
  ∃wf,((((((w6.setCell ⟨b,0,none⟩ v0).setCell ⟨b,1,none⟩ v1).setCell ⟨b,2,none⟩ v2).setCell ⟨b+1,0,none⟩ u0).setCell ⟨b+1,1,none⟩ u1).setCell ⟨b+1,2,none⟩ u2)=wf/\Bx wf b #[v0,v1,v2] T/\Bx wf (b+1) #[u0,u1,u2] U/\(∀k cs V,k≠b->k≠b+1->Bx w6 k cs V->Bx wf k cs V)/\Ext w wf/\Le (mk (a0e X b nb) w6) (mk (a0e X b nb) wf):=by
 obtain⟨r1,r2⟩:=h0.set3 v0 v1 v2;have h1':=h1.ext r2 (a0b (by omega));obtain⟨r3,r4⟩:=h1'.set3 u0 u1 u2;refine⟨_,rfl,r1.ext r4 (a0b (by omega)),r3,fun k cs V k1 k2 h=>(h.ext r2 (a0b k1)).ext r4 (a0b k2),ExtX.box (ExtX.box hE r2 hb) r4 (by omega),(a0i r2 (Nat.le_refl _) (by omega)).trans (a0i r4 (by omega) (by omega))⟩
theorem a7C (X:Nat->Bool) (w:World) (u v:Value) (x:Int) (n:Nat) (hX:HX X w) (hu:ZC (mk X w) u x) (hv:NC (mk X w) v n) (hx:lg x.natAbs<=549755813888) (hn:lg n<=549755813888):Calls Tryz.prog 145 #[u,v] w (a1Z X w ZC (x*n)):=by
 obtain⟨bo,k,e,rfl,hv2⟩:=hv.asZ hn;have huz:=hu.zv hx;obtain⟨s,ao,c,l,rfl,h1,h2,h3⟩:=hu;obtain⟨W,hW,hE,b0,b1,hz⟩:=a2a w #[.bool s, .slice ao l.length c] #[.bool false, .slice none 0 0] 30 30;have hXW:HX (a0e X w.heap.size 2) W:=hX.boxes hz;have hu1:=ZV.mono _ _ _ _ (a0q (nb:=2) hE) huz;have hv1:=ZV.mono _ _ _ _ (a0q (nb:=2) hE) hv2;obtain⟨b,hb⟩:∃b,w.heap.size=b:=⟨_,rfl⟩;have hbw:w.heap.size<=b:=by omega
 rw[hb]at b0 b1 hz hXW hu1 hv1;have c0:=b0.cell 0 rfl;have c1:=b0.cell 1 rfl;clear hx hn;go_enter Tryz.func145,Tryz.ntmps145
 go_wp2_with fail
 refine(c0K (a0e X b 2) W _ _ _ _ hXW hu1 hv1).mono ?_;rintro e1 w1 ⟨hE1,u1,rfl,s6,a6,c6,l6,rfl,h61,h62,h63⟩;have b1':=b1.ext0 hE1;clear c0 c1;go_wp2_with ((with_reducible show wpList _ _ _ (⟨_, .store _ _ _,_,_,_,_⟩::_) _ _);refine a0c a0G rfl rfl b1' rfl rfl (a2R _ _ _ _) ?_;intro w7 r1 r2)
 have h7:=(h63.mono (a0a.mono _) (a0i r2 (by omega) (by omega))).mono (a0a.mono _) a0k;exact bodyPost_ret (a0d rfl rfl a0G r1 rfl) rfl ⟨ExtX.box (hE.trans hE1) r2 (by omega),_,rfl,s6,a6,c6,l6,rfl,h61,h62,h7⟩
set_option maxRecDepth 100000 in
theorem a5O (X:Nat->Bool) (w:World) (u v:Value) (z:Int) (k:Nat) (hX:HX X w) (hu:ZC (mk X w) u z) (hv:NC (mk X w) v k) (hz:lg z.natAbs<=549755813888) (hk:lg k<=549755813888) (hk0:0<k):Calls Tryz.prog 172 #[u,v] w (a1Z X w QC (mkRat z k)):=by
 obtain⟨s,ao,c,l,rfl,h1,h2,h3⟩:=hu;have hvn:=hv.nv (by omega:lg k<=1099511627776);obtain⟨bo,e,m,rfl,g1,g2,g3⟩:=hv;obtain⟨W,hW,hE,b0,b1,hzz⟩:=a2a w #[.bool s, .slice ao l.length c] #[.bool false, .slice none 0 0, .slice none 0 0] 30 32;have hXW:HX (a0e X w.heap.size 2) W:=hX.boxes hzz;have hu1:NV (mk (a0e X w.heap.size 2) W) (.slice ao l.length c) z.natAbs:=NC.nv ⟨ao,c,l,rfl,h1,h2.2,h3.mono (a0a.mono _) (a0q hE)⟩ (by omega);have hv1:=NV.mono _ _ _ _ (a0q (nb:=2) hE) hvn;obtain⟨b,hb⟩:∃b,w.heap.size=b:=⟨_,rfl⟩;have hbw:w.heap.size<=b:=by omega
 rw[hb]at b0 b1 hzz hXW hu1 hv1;have c0:=b0.cell 0 rfl;have c1:=b0.cell 1 rfl;obtain⟨g,hg⟩:∃g,Nat.gcd z.natAbs k=g:=⟨_,rfl⟩;have hg0:Hid (0<g):=hid (by rw[<-hg];exact Nat.gcd_pos_of_pos_right _ hk0);have hgl:Hid (lg g<=1099511627776):=hid (by rw[<-hg];exact Nat.le_trans (a1f (Nat.gcd_le_right _ hk0)) (by omega));have hlow:=hid (fun(n d:List Nat) (hn:a0K n (z.natAbs/g)) (hd:a0K d (k/g))=>by
  have:=a6i.lowest (s:=s) (z:=z) (k:=k) (n:=n) (d:=d) (by omega) h2.1 (by rw[hg];exact hn) (by rw[hg];exact hd);rw[hg]at this;exact this)
 have hdl:Hid (lg (k/g)<=1099511627776):=hid (Nat.le_trans (a1f (Nat.div_le_self _ _)) (by omega));have hg':=hid hg;clear hz hk hk0 h2 g2 hvn hg;go_enter Tryz.func172,Tryz.ntmps172
 go_wp2_with fail
 refine(c1D hXW hu1 hv1).mono ?_;rintro e1 w1 ⟨hE1,ug,rfl,hug⟩;rw[hg'.out]at hug;have hX1:=hXW.ext hE1;have b01:=b0.ext0 hE1;have j0:=b01.cell 0 rfl;have j1:=b01.cell 1 rfl;clear c0 c1;go_wp2_with fail
 refine(c1F hX1 (mkx NV.mono hu1 hE1) (hug.nv hgl.out) hg0.out).mono ?_;rintro e2 w2 ⟨hE2,qu,ru,rfl,hqu,hru⟩;have hX2:=hX1.ext hE2;have b02:=b01.ext0 hE2;clear j0 j1;go_wp2_with fail
 refine(c1F hX2 (mkx NV.mono hv1 (hE1.trans hE2)) (mkx NV.mono (hug.nv hgl.out) hE2) hg0.out).mono ?_;rintro e3 w3 ⟨hE3,du,ru2,rfl,hdu,hru2⟩;have hX3:=hX2.ext hE3;go_wp2_with fail
 refine(c0L (a0e X b 2) w3 hX3).mono ?_;rintro e4 w4 ⟨hE4,ou,rfl,hou⟩;go_wp2_with fail
 refine(c0W (mkx NV.mono (hdu.nv hdl.out) hE4) (hou.nv (by rw[a3z];decide))).mono ?_;rintro e5 w5 ⟨hE5,rfl⟩;have hcq:Hid ((a3C (k/g) 1==0)=decide (k/g=1)):=hid (a8o _ _);have hqu5:=mkx NC.mono hqu (hE3.trans (hE4.trans hE5));have hdu5:=mkx NC.mono hdu (hE4.trans hE5);have hEE:=hE2.trans (hE3.trans (hE4.trans hE5));have b05:=b01.ext0 hEE;have b15:=b1.ext0 (hE1.trans hEE);have j0:=b05.cell 0 rfl;have j1:=b05.cell 1 rfl;obtain⟨qa,qc,ql,rfl,q1,q2,q3⟩:=hqu5;obtain⟨da,dc,dl,rfl,d1,d2,d3⟩:=hdu5;have hfin:=hid (hlow.out ql dl q2 d2);have hEf:=hE.trans (hE1.trans hEE);clear hqu hdu hru hru2 hou hug hlow q2 d2;by_cases h1':k/g=1
 ·have hf:=hfin.out
  rw[if_pos h1']at hf;have hI:(a3C (k/g) 1==0)=true:=by rw[hcq.out];exact decide_eq_true h1'
  generalize a3C (k/g) 1=cc at*;clear hcq h1' hfin;go_wp2_with ((with_reducible show wpList _ _ _ (⟨_, .store _ _ _,_,_,_,_⟩::_) _ _);refine a0c a0w rfl rfl b15 rfl rfl (a2C _ _ _ _ _ _ _) ?_;intro w7 r1 r2)
  have h7:=(q3.mono (a0a.mono _) (a0i r2 (by omega) (by omega))).mono (a0a.mono _) a0k;exact bodyPost_ret (a0d rfl rfl a0w r1 rfl) rfl ⟨ExtX.box hEf r2 (by omega),_,rfl,s,qa,qc,ql,none,0,[],rfl,q1,Nat.le_refl _,hf,h7,Sl.nil _ _ _ _⟩
 ·have hf:=hfin.out
  rw[if_neg h1']at hf;have hI:(a3C (k/g) 1==0)=false:=by rw[hcq.out];exact decide_eq_false h1'
  generalize a3C (k/g) 1=cc at*;clear hcq h1' hfin;go_wp2_with ((with_reducible show wpList _ _ _ (⟨_, .store _ _ _,_,_,_,_⟩::_) _ _);refine a0c a0w rfl rfl b15 rfl rfl (a2C _ _ _ _ _ _ _) ?_;intro w7 r1 r2)
  have h7:=(q3.mono (a0a.mono _) (a0i r2 (by omega) (by omega))).mono (a0a.mono _) a0k;have h8:=(d3.mono (a0a.mono _) (a0i r2 (by omega) (by omega))).mono (a0a.mono _) a0k;exact bodyPost_ret (a0d rfl rfl a0w r1 rfl) rfl ⟨ExtX.box hEf r2 (by omega),_,rfl,s,qa,qc,ql,da,dc,dl,rfl,q1,d1,hf,h7,h8⟩
theorem b2e (X:Nat->Bool) (w:World) (v:Int) (hX:HX X w) (h1: -9223372036854775808<=v) (h2:v<=9223372036854775807):Calls Tryz.prog 109 #[.int .i64 v] w (a1Z X w QC v):=by
 obtain⟨W,hW,hE,b0,hz⟩:=a1I w #[.bool false, .slice none 0 0, .slice none 0 0] 32;have hXW:HX (a0e X w.heap.size 1) W:=hX.boxes hz;obtain⟨b,hb⟩:∃b,w.heap.size=b:=⟨_,rfl⟩;have hbw:w.heap.size<=b:=by omega
 rw[hb]at b0 hz hXW;have h1':=hid h1;have h2':=hid h2;clear h1 h2;go_enter Tryz.func109,Tryz.ntmps109
 go_wp2_with fail
 refine(c0Z (a0e X b 1) W v hXW h1'.out h2'.out).mono ?_;rintro e1 w1 ⟨hE1,u1,rfl,s6,a6,c6,l6,rfl,h61,h62,h63⟩;have b1':=b0.ext0 hE1;have hcq:=a6i.ofInt h62;go_wp2_with ((with_reducible show wpList _ _ _ (⟨_, .store _ _ _,_,_,_,_⟩::_) _ _);refine a0c a0w rfl rfl b1' rfl rfl (a2C _ _ _ _ _ _ _) ?_;intro w7 r1 r2)
 have h7:=(h63.mono (a0a.mono _) (a0i r2 (by omega) (by omega))).mono (a0a.mono _) a0k;exact bodyPost_ret (a0d rfl rfl a0w r1 rfl) rfl ⟨ExtX.box (hE.trans hE1) r2 (by omega),_,rfl,s6,a6,c6,l6,none,0,[],rfl,h61,Nat.le_refl _,hcq,h7,Sl.nil _ _ _ _⟩
set_option maxRecDepth 100000 in
set_option maxHeartbeats 1600000 in
theorem b9Z (X:Nat->Bool) (w:World) (u v:Value) (x y:Rat) (hX:HX X w) (hu:QV (mk X w) u x) (hv:QV (mk X w) v y):Calls Tryz.prog 112 #[u,v] w (a1Z X w QC (x+y)):=by
 have hlx:=hid hu.hq;have hly:=hid hv.hq;obtain⟨s1,a1,n1,c1,d1,k1,e1,rfl⟩:=hu.shape;obtain⟨s2,a2,n2,c2,d2,k2,e2,rfl⟩:=hv.shape;obtain⟨W,hW,hE,b0,b1,b2,hz⟩:=a2B w #[.bool s1, .slice a1 n1 c1, .slice d1 k1 e1] #[.bool s2, .slice a2 n2 c2, .slice d2 k2 e2] #[.bool false, .slice none 0 0, .slice none 0 0] 32 32 32;have hXW:HX (a0e X w.heap.size 3) W:=hX.boxes hz;have hu1:=QV.mono _ _ _ _ (a0q (nb:=3) hE) hu;have hv1:=QV.mono _ _ _ _ (a0q (nb:=3) hE) hv;obtain⟨b,hb⟩:∃b,w.heap.size=b:=⟨_,rfl⟩;have hbw:w.heap.size<=b:=by omega
 rw[hb]at b0 b1 b2 hz hXW hu1 hv1;have hEd:Ext W W.drew:=(ExtX.refl W).drew;have hXd:HX (a0e X b 3) W.drew:=hXW;have hud:QV (mk (a0e X b 3) W.drew) (.agg #[.bool s1, .slice a1 n1 c1, .slice d1 k1 e1]) x:=hu1;have hvd:QV (mk (a0e X b 3) W.drew) (.agg #[.bool s2, .slice a2 n2 c2, .slice d2 k2 e2]) y:=hv1;have k00:=b0.cell 0 rfl;have k01:=b0.cell 1 rfl;have k02:=b0.cell 2 rfl;have k10:=b1.cell 0 rfl;have k11:=b1.cell 1 rfl;have k12:=b1.cell 2 rfl;clear hu hv;go_enter Tryz.func112,Tryz.ntmps112
 go_upto_region 1 with(fail)
 go_cut []from 5 to 8 (fun wx=>∃s3 a3 n3 c3 d3 k3 e3 s4 a4 n4 c4 d4 k4 e4,Bx wx b #[.bool s3, .slice a3 n3 c3, .slice d3 k3 e3] 32/\Bx wx (b+1) #[.bool s4, .slice a4 n4 c4, .slice d4 k4 e4] 32/\Bx wx (b+1+1) #[.bool false, .slice none 0 0, .slice none 0 0] 32/\QC (mk (a0e X b 3) wx) (.agg #[.bool s3, .slice a3 n3 c3, .slice d3 k3 e3]) x/\QC (mk (a0e X b 3) wx) (.agg #[.bool s4, .slice a4 n4 c4, .slice d4 k4 e4]) y/\Ext w wx)
 case first=>
  go_region_with (first|(go_at_call 143;(with_reducible refine(a6d (a0e X b 3) W.drew _ x hXd hud).mono ?_);rintro ee w5 ⟨hE5,u5,rfl,hq5⟩;obtain⟨s5,a5,n5,c5,d5,k5,e5,rfl⟩:=hq5.shape;have bb0:=b0.ext0 (hEd.trans hE5);have bb1:=b1.ext0 (hEd.trans hE5);have e00:=bb0.cell 0 rfl;have e01:=bb0.cell 1 rfl;have e02:=bb0.cell 2 rfl;have e10:=bb1.cell 0 rfl;have e11:=bb1.cell 1 rfl;have e12:=bb1.cell 2 rfl)|(go_at_call 143;(with_reducible refine(a6d (a0e X b 3) w5 _ y (HX.ext hXd hE5) (mkx QV.mono hvd hE5)).mono ?_);rintro ee w6 ⟨hE6,u6,rfl,hq6⟩;obtain⟨s6,a6,n6,c6,d6,k6,e6,rfl⟩:=hq6.shape;have bb2:=bb0.ext0 hE6;have bb3:=bb1.ext0 hE6;have g00:=bb2.cell 0 rfl;have g01:=bb2.cell 1 rfl;have g02:=bb2.cell 2 rfl;have g10:=bb3.cell 0 rfl;have g11:=bb3.cell 1 rfl;have g12:=bb3.cell 2 rfl;have fr0:=bb2.frozen 0;have fr1:=bb2.frozen 1;have fr4:=bb2.frozen 2;have fr2:=bb3.frozen 0;have fr3:=bb3.frozen 1;have fr5:=bb3.frozen 2))
  all_goals
   obtain⟨wf,hwf,q0,q1,q2,q3,q4⟩:=a2n (X:=X) (nb:=3) bb2 bb3 (hE.trans ((hEd.trans hE5).trans hE6)) hbw (by omega) (.bool s5) (.slice a5 n5 c5) (.slice d5 k5 e5) (.bool s6) (.slice a6 n6 c6) (.slice d6 k6 e6);rw[hwf];have hfx:QC (mk (a0e X b 3) wf) (.agg #[.bool s5, .slice a5 n5 c5, .slice d5 k5 e5]) x:=QC.mono _ _ _ _ q4 (mkx QC.mono hq5 hE6);have hfy:QC (mk (a0e X b 3) wf) (.agg #[.bool s6, .slice a6 n6 c6, .slice d6 k6 e6]) y:=QC.mono _ _ _ _ q4 hq6;have q5:=q2 (b+1+1) _ _ (by omega) (by omega) ((b2.ext0 (hEd.trans hE5)).ext0 hE6);clear e00 e01 e02 e10 e11 e12 g00 g01 g02 g10 g11 g12 fr0 fr1 fr2 fr3 fr4 fr5 k00 k01 k02 k10 k11 k12 hwf;go_wp2_with fail
   go_meet
   exact⟨_,_,_,_,_,_,_,_,_,_,_,_,_,_,q0,q1,q5,hfx,hfy,q3⟩
 case rest=>
  clear k00 k01 k02 k10 k11 k12 b0 b1 b2 hu1 hv1 hud hvd hXd hEd hW;obtain⟨s3,a3,n3,c3,d3,k3,e3,s4,a4,n4,c4,d4,k4,e4,b0,b1,b2,hx,hy,hE1⟩:=hcut;have hzz:w.heap.size+3<=wc.heap.size:=by have:=b2.lt;omega
  obtain⟨hxz,hxm,hxdn⟩:=hx.num;obtain⟨hyz,hym,hydn⟩:=hy.num;have hXc:HX (a0e X b 3) wc:=hX.boxes' hE1 (by have:=hzz;omega) hzz;have k00:=b0.cell 0 rfl;have k01:=b0.cell 1 rfl;have k02:=b0.cell 2 rfl;have k10:=b1.cell 0 rfl;have k11:=b1.cell 1 rfl;have k12:=b1.cell 2 rfl;have hEd:Ext wc wc.drew:=(ExtX.refl wc).drew;have hXd:HX (a0e X b 3) wc.drew:=hXc;have hxd:QC (mk (a0e X b 3) wc.drew) (.agg #[.bool s3, .slice a3 n3 c3, .slice d3 k3 e3]) x:=hx;have hyd:QC (mk (a0e X b 3) wc.drew) (.agg #[.bool s4, .slice a4 n4 c4, .slice d4 k4 e4]) y:=hy;have hxzd:ZC (mk (a0e X b 3) wc.drew) (.agg #[.bool s3, .slice a3 n3 c3]) x.num:=hxz;have hyzd:ZC (mk (a0e X b 3) wc.drew) (.agg #[.bool s4, .slice a4 n4 c4]) y.num:=hyz;have bxn:lg x.num.natAbs<=549755813888:=Nat.le_trans (Nat.le_trans (a0F x) hlx.out) (by omega);have byn:lg y.num.natAbs<=549755813888:=Nat.le_trans (Nat.le_trans (a0F y) hly.out) (by omega);have bxd:lg x.den<=549755813888:=Nat.le_trans (Nat.le_trans (a0I x) hlx.out) (by omega);have byd:lg y.den<=549755813888:=Nat.le_trans (Nat.le_trans (a0I y) hly.out) (by omega);have bp1:lg (x.num*(y.den:Int)).natAbs<=274877906944:=by rw[Int.natAbs_mul,Int.natAbs_natCast];have:=a1c x.num.natAbs y.den;have:=a0F x;have:=a0I y;have:=hlx.out;have:=hly.out;omega
  have bp2:lg (y.num*(x.den:Int)).natAbs<=274877906944:=by rw[Int.natAbs_mul,Int.natAbs_natCast];have:=a1c y.num.natAbs x.den;have:=a0F y;have:=a0I x;have:=hlx.out;have:=hly.out;omega
  have bdd:lg (x.den*y.den)<=274877906944:=by have:=a1c x.den y.den;have:=a0I x;have:=a0I y;have:=hlx.out;have:=hly.out;omega
  have bnn:lg (x.num*y.num).natAbs<=274877906944:=by rw[Int.natAbs_mul];have:=a1c x.num.natAbs y.num.natAbs;have:=a0F x;have:=a0F y;have:=hlx.out;have:=hly.out;omega
  have bd0:0<x.den*y.den:=Nat.mul_pos x.den_pos y.den_pos;have hB:=hid (And.intro b0 b1);have hS:Hid (∀W',Ext wc.drew W'->W'.cell? ⟨b,0,none⟩=some (.bool s3)/\W'.cell? ⟨b,1,none⟩=some (.slice a3 n3 c3)/\W'.cell? ⟨b,2,none⟩=some (.slice d3 k3 e3)/\W'.cell? ⟨b+1,0,none⟩=some (.bool s4)/\W'.cell? ⟨b+1,1,none⟩=some (.slice a4 n4 c4)/\W'.cell? ⟨b+1,2,none⟩=some (.slice d4 k4 e4)):=
   hid fun W' h=>⟨(b0.ext0 (hEd.trans h)).cell 0 rfl,(b0.ext0 (hEd.trans h)).cell 1 rfl,(b0.ext0 (hEd.trans h)).cell 2 rfl,(b1.ext0 (hEd.trans h)).cell 0 rfl,(b1.ext0 (hEd.trans h)).cell 1 rfl,(b1.ext0 (hEd.trans h)).cell 2 rfl⟩
  have hl3:=hxdn.len0;have hl4:=hydn.len0;rw[a4a]at hl3 hl4;have bsum:lg (x.num*(y.den:Int)+y.num*(x.den:Int)).natAbs<=549755813888:=by
   have h1:=a1f (Int.natAbs_add_le (x.num*(y.den:Int)) (y.num*(x.den:Int)));have h2:=b0N (x.num*(y.den:Int)).natAbs (y.num*(x.den:Int)).natAbs;omega
  have hfin:Hid (mkRat (x.num*(y.den:Int)+y.num*(x.den:Int)) (x.den*y.den)=x+y):=hid (Rat.add_def' x y).symm;by_cases hk:k3=0/\k4=0
  ·have hd3:=hid (hl3.1 hk.1)
   have hd4:=hid (hl4.1 hk.2);obtain⟨rfl,rfl⟩:=hk;have hsum:Hid (((x.num+y.num:Int):Rat)=x+y):=hid (by
    rw[Rat.intCast_add]
    conv=>rhs;rw[<-Rat.mkRat_self x,<-Rat.mkRat_self y]
    rw[hd3.out,hd4.out,<-Rat.mk_den_one,<-Rat.mk_den_one,Rat.mk_eq_mkRat,Rat.mk_eq_mkRat])
   clear hl3 hl4;go_wp2_with fail
   refine(b9W (a0e X b 3) wc _ _ _ _ hXc (hxz.zv bxn) (hyz.zv byn)).mono ?_;rintro ee w5 ⟨hE5,u5,rfl,s6,a6,c6,l6,rfl,h61,h62,h63⟩;have b2':=b2.ext0 hE5;have hcq:=a6i.ofInt h62;rw[hsum.out]at hcq;clear k00 k01 k02 k10 k11 k12;go_wp2_with ((with_reducible show wpList _ _ _ (⟨_, .store _ _ _,_,_,_,_⟩::_) _ _);refine a0c a0w rfl rfl b2' rfl rfl (a2C _ _ _ _ _ _ _) ?_;intro w7 r1 r2)
   have h7:=(h63.mono (a0a.mono _) (a0i r2 (by omega) (by omega))).mono (a0a.mono _) a0k;exact bodyPost_ret (a0d rfl rfl a0w r1 rfl) rfl ⟨ExtX.box (hE1.trans hE5) r2 (by omega),_,rfl,s6,a6,c6,l6,none,0,[],rfl,h61,Nat.le_refl _,hcq,h7,Sl.nil _ _ _ _⟩
  ·have hk3:Hid (¬(k3=0/\k4=0)):=hid hk
   rcases(by omega:¬k3=0\/(k3=0/\¬k4=0))with h3|⟨h3,h4⟩
   ·have hI:((k3:Int)==0)=false:=a1S (by omega)
    clear hk hl3 hl4 h3;go_wp2_with fail
    go_region_held3 (fun w'=>w'.cell? ⟨b,0,none⟩=some (.bool s3)/\w'.cell? ⟨b,1,none⟩=some (.slice a3 n3 c3)/\w'.cell? ⟨b,2,none⟩=some (.slice d3 k3 e3)/\w'.cell? ⟨b+1,0,none⟩=some (.bool s4)/\w'.cell? ⟨b+1,1,none⟩=some (.slice a4 n4 c4)/\w'.cell? ⟨b+1,2,none⟩=some (.slice d4 k4 e4))
     (first|exact hS.out _ t1|exact hS.out _ t2|exact hS.out _ t3|exact hS.out _ t4|exact hS.out _ t5|exact hS.out _ t6|exact hS.out _ t7|exact hS.out _ t8|exact hS.out _ t9|exact⟨((hB.out.1.ext0 (hEd.trans t9)).ext (bb2.set3 _ _ _).2 (a0b (by omega))).cell 0 rfl,((hB.out.1.ext0 (hEd.trans t9)).ext (bb2.set3 _ _ _).2 (a0b (by omega))).cell 1 rfl,((hB.out.1.ext0 (hEd.trans t9)).ext (bb2.set3 _ _ _).2 (a0b (by omega))).cell 2 rfl,((hB.out.2.ext0 (hEd.trans t9)).ext (bb2.set3 _ _ _).2 (a0b (by omega))).cell 0 rfl,((hB.out.2.ext0 (hEd.trans t9)).ext (bb2.set3 _ _ _).2 (a0b (by omega))).cell 1 rfl,((hB.out.2.ext0 (hEd.trans t9)).ext (bb2.set3 _ _ _).2 (a0b (by omega))).cell 2 rfl⟩|go_keep)
     (first|(go_at_call 146;(with_reducible refine(b0V (a0e X b 3) wc.drew _ y hXd hyd).mono ?_);rintro ee w5 ⟨t1,u5,rfl,hu5⟩;have hX5:=HX.ext hXd t1;have hx5:=mkx ZC.mono hxzd t1)|(go_at_call 145;(with_reducible refine(a7C (a0e X b 3) w5 _ _ x.num y.den hX5 hx5 hu5 bxn byd).mono ?_);rintro ee w6 ⟨hE6,u6,rfl,hu6⟩;have t2:=t1.trans hE6;have hX6:=HX.ext hXd t2;have hx6:=mkx QC.mono hxd t2)|(go_at_call 146;(with_reducible refine(b0V (a0e X b 3) w6 _ x hX6 hx6).mono ?_);rintro ee w7 ⟨hE7,u7,rfl,hu7⟩;have t3:=t2.trans hE7;have hX7:=HX.ext hXd t3;have hy7:=mkx ZC.mono hyzd t3)|(go_at_call 145;(with_reducible refine(a7C (a0e X b 3) w7 _ _ y.num x.den hX7 hy7 hu7 byn bxd).mono ?_);rintro ee w8 ⟨hE8,u8,rfl,hu8⟩;have t4:=t3.trans hE8;have hX8:=HX.ext hXd t4;have hz6:=(mkx ZC.mono hu6 (hE7.trans hE8)).zv (Nat.le_trans bp1 (by decide));have hz8:=hu8.zv (Nat.le_trans bp2 (by decide)))|(go_at_call 171;(with_reducible refine(b9W (a0e X b 3) w8 _ _ _ _ hX8 hz6 hz8).mono ?_);rintro ee w9 ⟨hE9,u9,rfl,hu9⟩;have t5:=t4.trans hE9;have hX9:=HX.ext hXd t5;have hx9:=mkx QC.mono hxd t5)|(go_at_call 146;(with_reducible refine(b0V (a0e X b 3) w9 _ x hX9 hx9).mono ?_);rintro ee w10 ⟨hE10,u10,rfl,hu10⟩;have t6:=t5.trans hE10;have hX10:=HX.ext hXd t6;have hy10:=mkx QC.mono hyd t6)|(go_at_call 146;(with_reducible refine(b0V (a0e X b 3) w10 _ y hX10 hy10).mono ?_);rintro ee w11 ⟨hE11,u11,rfl,hu11⟩;have t7:=t6.trans hE11;have hX11:=HX.ext hXd t7;have hm10:=(mkx NC.mono hu10 hE11).nv (Nat.le_trans bxd (by decide));have hm11:=hu11.nv (Nat.le_trans byd (by decide)))|(go_at_call 173;(with_reducible refine(b7c hX11 hm10 hm11).mono ?_);rintro ee w12 ⟨hE12,u12,rfl,hu12⟩;have t8:=t7.trans hE12;have hX12:=HX.ext hXd t8;have hz9:=mkx ZC.mono hu9 (hE10.trans (hE11.trans hE12)))|(go_at_call 172;(with_reducible refine(a5O (a0e X b 3) w12 _ _ _ _ hX12 hz9 hu12 bsum (Nat.le_trans bdd (by decide)) bd0).mono ?_);rintro ee w13 ⟨hE13,u13,rfl,hu13⟩;obtain⟨s13,a13,n13,c13,d13,k13,e13,rfl⟩:=hu13.shape;have t9:=t8.trans hE13;have bb2:=b2.ext0 (hEd.trans t9);have g0:=bb2.cell 0 rfl;have g1:=bb2.cell 1 rfl;have g2:=bb2.cell 2 rfl;have f0:=bb2.frozen 0;have f1:=bb2.frozen 1;have f2:=bb2.frozen 2))
    obtain⟨r1,r2⟩:=bb2.set3 (.bool s13) (.slice a13 n13 c13) (.slice d13 k13 e13);have h7:=QC.mono _ _ _ _ a0k (QC.mono _ _ _ _ (a0i r2 (by omega) (by omega)) hu13);rw[hfin.out]at h7;have hEf:Ext w _:=ExtX.box (hE1.trans (hEd.trans t9)) r2 (by omega);clear g0 g1 g2 f0 f1 f2 k00 k01 k02 k10 k11 k12 hS hB;go_wp2_with fail
    exact bodyPost_ret (a0d rfl rfl a0w r1 rfl) rfl ⟨hEf,_,rfl,h7⟩
   ·have hI:((k4:Int)==0)=false:=a1S (by omega)
    subst h3;clear hk hl3 hl4 h4;go_wp2_with fail
    go_region_held3 (fun w'=>w'.cell? ⟨b,0,none⟩=some (.bool s3)/\w'.cell? ⟨b,1,none⟩=some (.slice a3 n3 c3)/\w'.cell? ⟨b,2,none⟩=some (.slice d3 0 e3)/\w'.cell? ⟨b+1,0,none⟩=some (.bool s4)/\w'.cell? ⟨b+1,1,none⟩=some (.slice a4 n4 c4)/\w'.cell? ⟨b+1,2,none⟩=some (.slice d4 k4 e4))
     (first|exact hS.out _ t1|exact hS.out _ t2|exact hS.out _ t3|exact hS.out _ t4|exact hS.out _ t5|exact hS.out _ t6|exact hS.out _ t7|exact hS.out _ t8|exact hS.out _ t9|exact⟨((hB.out.1.ext0 (hEd.trans t9)).ext (bb2.set3 _ _ _).2 (a0b (by omega))).cell 0 rfl,((hB.out.1.ext0 (hEd.trans t9)).ext (bb2.set3 _ _ _).2 (a0b (by omega))).cell 1 rfl,((hB.out.1.ext0 (hEd.trans t9)).ext (bb2.set3 _ _ _).2 (a0b (by omega))).cell 2 rfl,((hB.out.2.ext0 (hEd.trans t9)).ext (bb2.set3 _ _ _).2 (a0b (by omega))).cell 0 rfl,((hB.out.2.ext0 (hEd.trans t9)).ext (bb2.set3 _ _ _).2 (a0b (by omega))).cell 1 rfl,((hB.out.2.ext0 (hEd.trans t9)).ext (bb2.set3 _ _ _).2 (a0b (by omega))).cell 2 rfl⟩|go_keep)
     (first|(go_at_call 146;(with_reducible refine(b0V (a0e X b 3) wc.drew _ y hXd hyd).mono ?_);rintro ee w5 ⟨t1,u5,rfl,hu5⟩;have hX5:=HX.ext hXd t1;have hx5:=mkx ZC.mono hxzd t1)|(go_at_call 145;(with_reducible refine(a7C (a0e X b 3) w5 _ _ x.num y.den hX5 hx5 hu5 bxn byd).mono ?_);rintro ee w6 ⟨hE6,u6,rfl,hu6⟩;have t2:=t1.trans hE6;have hX6:=HX.ext hXd t2;have hx6:=mkx QC.mono hxd t2)|(go_at_call 146;(with_reducible refine(b0V (a0e X b 3) w6 _ x hX6 hx6).mono ?_);rintro ee w7 ⟨hE7,u7,rfl,hu7⟩;have t3:=t2.trans hE7;have hX7:=HX.ext hXd t3;have hy7:=mkx ZC.mono hyzd t3)|(go_at_call 145;(with_reducible refine(a7C (a0e X b 3) w7 _ _ y.num x.den hX7 hy7 hu7 byn bxd).mono ?_);rintro ee w8 ⟨hE8,u8,rfl,hu8⟩;have t4:=t3.trans hE8;have hX8:=HX.ext hXd t4;have hz6:=(mkx ZC.mono hu6 (hE7.trans hE8)).zv (Nat.le_trans bp1 (by decide));have hz8:=hu8.zv (Nat.le_trans bp2 (by decide)))|(go_at_call 171;(with_reducible refine(b9W (a0e X b 3) w8 _ _ _ _ hX8 hz6 hz8).mono ?_);rintro ee w9 ⟨hE9,u9,rfl,hu9⟩;have t5:=t4.trans hE9;have hX9:=HX.ext hXd t5;have hx9:=mkx QC.mono hxd t5)|(go_at_call 146;(with_reducible refine(b0V (a0e X b 3) w9 _ x hX9 hx9).mono ?_);rintro ee w10 ⟨hE10,u10,rfl,hu10⟩;have t6:=t5.trans hE10;have hX10:=HX.ext hXd t6;have hy10:=mkx QC.mono hyd t6)|(go_at_call 146;(with_reducible refine(b0V (a0e X b 3) w10 _ y hX10 hy10).mono ?_);rintro ee w11 ⟨hE11,u11,rfl,hu11⟩;have t7:=t6.trans hE11;have hX11:=HX.ext hXd t7;have hm10:=(mkx NC.mono hu10 hE11).nv (Nat.le_trans bxd (by decide));have hm11:=hu11.nv (Nat.le_trans byd (by decide)))|(go_at_call 173;(with_reducible refine(b7c hX11 hm10 hm11).mono ?_);rintro ee w12 ⟨hE12,u12,rfl,hu12⟩;have t8:=t7.trans hE12;have hX12:=HX.ext hXd t8;have hz9:=mkx ZC.mono hu9 (hE10.trans (hE11.trans hE12)))|(go_at_call 172;(with_reducible refine(a5O (a0e X b 3) w12 _ _ _ _ hX12 hz9 hu12 bsum (Nat.le_trans bdd (by decide)) bd0).mono ?_);rintro ee w13 ⟨hE13,u13,rfl,hu13⟩;obtain⟨s13,a13,n13,c13,d13,k13,e13,rfl⟩:=hu13.shape;have t9:=t8.trans hE13;have bb2:=b2.ext0 (hEd.trans t9);have g0:=bb2.cell 0 rfl;have g1:=bb2.cell 1 rfl;have g2:=bb2.cell 2 rfl;have f0:=bb2.frozen 0;have f1:=bb2.frozen 1;have f2:=bb2.frozen 2))
    obtain⟨r1,r2⟩:=bb2.set3 (.bool s13) (.slice a13 n13 c13) (.slice d13 k13 e13);have h7:=QC.mono _ _ _ _ a0k (QC.mono _ _ _ _ (a0i r2 (by omega) (by omega)) hu13);rw[hfin.out]at h7;have hEf:Ext w _:=ExtX.box (hE1.trans (hEd.trans t9)) r2 (by omega);clear g0 g1 g2 f0 f1 f2 k00 k01 k02 k10 k11 k12 hS hB;go_wp2_with fail
    exact bodyPost_ret (a0d rfl rfl a0w r1 rfl) rfl ⟨hEf,_,rfl,h7⟩
set_option maxRecDepth 100000 in
set_option maxHeartbeats 1600000 in
theorem c0M (X:Nat->Bool) (w:World) (u v:Value) (x y:Rat) (hX:HX X w) (hu:QV (mk X w) u x) (hv:QV (mk X w) v y):Calls Tryz.prog 169 #[u,v] w (a1Z X w QC (x*y)):=by
 have hlx:=hid hu.hq;have hly:=hid hv.hq;obtain⟨s1,a1,n1,c1,d1,k1,e1,rfl⟩:=hu.shape;obtain⟨s2,a2,n2,c2,d2,k2,e2,rfl⟩:=hv.shape;obtain⟨W,hW,hE,b0,b1,b2,hz⟩:=a2B w #[.bool s1, .slice a1 n1 c1, .slice d1 k1 e1] #[.bool s2, .slice a2 n2 c2, .slice d2 k2 e2] #[.bool false, .slice none 0 0, .slice none 0 0] 32 32 32;have hXW:HX (a0e X w.heap.size 3) W:=hX.boxes hz;have hu1:=QV.mono _ _ _ _ (a0q (nb:=3) hE) hu;have hv1:=QV.mono _ _ _ _ (a0q (nb:=3) hE) hv;obtain⟨b,hb⟩:∃b,w.heap.size=b:=⟨_,rfl⟩;have hbw:w.heap.size<=b:=by omega
 rw[hb]at b0 b1 b2 hz hXW hu1 hv1;have hEd:Ext W W.drew:=(ExtX.refl W).drew;have hXd:HX (a0e X b 3) W.drew:=hXW;have hud:QV (mk (a0e X b 3) W.drew) (.agg #[.bool s1, .slice a1 n1 c1, .slice d1 k1 e1]) x:=hu1;have hvd:QV (mk (a0e X b 3) W.drew) (.agg #[.bool s2, .slice a2 n2 c2, .slice d2 k2 e2]) y:=hv1;have k00:=b0.cell 0 rfl;have k01:=b0.cell 1 rfl;have k02:=b0.cell 2 rfl;have k10:=b1.cell 0 rfl;have k11:=b1.cell 1 rfl;have k12:=b1.cell 2 rfl;clear hu hv;go_enter Tryz.func169,Tryz.ntmps169
 go_upto_region 1 with(fail)
 go_cut []from 5 to 8 (fun wx=>∃s3 a3 n3 c3 d3 k3 e3 s4 a4 n4 c4 d4 k4 e4,Bx wx b #[.bool s3, .slice a3 n3 c3, .slice d3 k3 e3] 32/\Bx wx (b+1) #[.bool s4, .slice a4 n4 c4, .slice d4 k4 e4] 32/\Bx wx (b+1+1) #[.bool false, .slice none 0 0, .slice none 0 0] 32/\QC (mk (a0e X b 3) wx) (.agg #[.bool s3, .slice a3 n3 c3, .slice d3 k3 e3]) x/\QC (mk (a0e X b 3) wx) (.agg #[.bool s4, .slice a4 n4 c4, .slice d4 k4 e4]) y/\Ext w wx)
 case first=>
  go_region_with (first|(go_at_call 143;(with_reducible refine(a6d (a0e X b 3) W.drew _ x hXd hud).mono ?_);rintro ee w5 ⟨hE5,u5,rfl,hq5⟩;obtain⟨s5,a5,n5,c5,d5,k5,e5,rfl⟩:=hq5.shape;have bb0:=b0.ext0 (hEd.trans hE5);have bb1:=b1.ext0 (hEd.trans hE5);have e00:=bb0.cell 0 rfl;have e01:=bb0.cell 1 rfl;have e02:=bb0.cell 2 rfl;have e10:=bb1.cell 0 rfl;have e11:=bb1.cell 1 rfl;have e12:=bb1.cell 2 rfl)|(go_at_call 143;(with_reducible refine(a6d (a0e X b 3) w5 _ y (HX.ext hXd hE5) (mkx QV.mono hvd hE5)).mono ?_);rintro ee w6 ⟨hE6,u6,rfl,hq6⟩;obtain⟨s6,a6,n6,c6,d6,k6,e6,rfl⟩:=hq6.shape;have bb2:=bb0.ext0 hE6;have bb3:=bb1.ext0 hE6;have g00:=bb2.cell 0 rfl;have g01:=bb2.cell 1 rfl;have g02:=bb2.cell 2 rfl;have g10:=bb3.cell 0 rfl;have g11:=bb3.cell 1 rfl;have g12:=bb3.cell 2 rfl;have fr0:=bb2.frozen 0;have fr1:=bb2.frozen 1;have fr4:=bb2.frozen 2;have fr2:=bb3.frozen 0;have fr3:=bb3.frozen 1;have fr5:=bb3.frozen 2))
  all_goals
   obtain⟨wf,hwf,q0,q1,q2,q3,q4⟩:=a2n (X:=X) (nb:=3) bb2 bb3 (hE.trans ((hEd.trans hE5).trans hE6)) hbw (by omega) (.bool s5) (.slice a5 n5 c5) (.slice d5 k5 e5) (.bool s6) (.slice a6 n6 c6) (.slice d6 k6 e6);rw[hwf];have hfx:QC (mk (a0e X b 3) wf) (.agg #[.bool s5, .slice a5 n5 c5, .slice d5 k5 e5]) x:=QC.mono _ _ _ _ q4 (mkx QC.mono hq5 hE6);have hfy:QC (mk (a0e X b 3) wf) (.agg #[.bool s6, .slice a6 n6 c6, .slice d6 k6 e6]) y:=QC.mono _ _ _ _ q4 hq6;have q5:=q2 (b+1+1) _ _ (by omega) (by omega) ((b2.ext0 (hEd.trans hE5)).ext0 hE6);clear e00 e01 e02 e10 e11 e12 g00 g01 g02 g10 g11 g12 fr0 fr1 fr2 fr3 fr4 fr5 k00 k01 k02 k10 k11 k12 hwf;go_wp2_with fail
   go_meet
   exact⟨_,_,_,_,_,_,_,_,_,_,_,_,_,_,q0,q1,q5,hfx,hfy,q3⟩
 case rest=>
  clear k00 k01 k02 k10 k11 k12 b0 b1 b2 hu1 hv1 hud hvd hXd hEd hW;obtain⟨s3,a3,n3,c3,d3,k3,e3,s4,a4,n4,c4,d4,k4,e4,b0,b1,b2,hx,hy,hE1⟩:=hcut;have hzz:w.heap.size+3<=wc.heap.size:=by have:=b2.lt;omega
  obtain⟨hxz,hxm,hxdn⟩:=hx.num;obtain⟨hyz,hym,hydn⟩:=hy.num;have hXc:HX (a0e X b 3) wc:=hX.boxes' hE1 (by have:=hzz;omega) hzz;have k00:=b0.cell 0 rfl;have k01:=b0.cell 1 rfl;have k02:=b0.cell 2 rfl;have k10:=b1.cell 0 rfl;have k11:=b1.cell 1 rfl;have k12:=b1.cell 2 rfl;have hEd:Ext wc wc.drew:=(ExtX.refl wc).drew;have hXd:HX (a0e X b 3) wc.drew:=hXc;have hxd:QC (mk (a0e X b 3) wc.drew) (.agg #[.bool s3, .slice a3 n3 c3, .slice d3 k3 e3]) x:=hx;have hyd:QC (mk (a0e X b 3) wc.drew) (.agg #[.bool s4, .slice a4 n4 c4, .slice d4 k4 e4]) y:=hy;have hxzd:ZC (mk (a0e X b 3) wc.drew) (.agg #[.bool s3, .slice a3 n3 c3]) x.num:=hxz;have hyzd:ZC (mk (a0e X b 3) wc.drew) (.agg #[.bool s4, .slice a4 n4 c4]) y.num:=hyz;have bxn:lg x.num.natAbs<=549755813888:=Nat.le_trans (Nat.le_trans (a0F x) hlx.out) (by omega);have byn:lg y.num.natAbs<=549755813888:=Nat.le_trans (Nat.le_trans (a0F y) hly.out) (by omega);have bxd:lg x.den<=549755813888:=Nat.le_trans (Nat.le_trans (a0I x) hlx.out) (by omega);have byd:lg y.den<=549755813888:=Nat.le_trans (Nat.le_trans (a0I y) hly.out) (by omega);have bp1:lg (x.num*(y.den:Int)).natAbs<=274877906944:=by rw[Int.natAbs_mul,Int.natAbs_natCast];have:=a1c x.num.natAbs y.den;have:=a0F x;have:=a0I y;have:=hlx.out;have:=hly.out;omega
  have bp2:lg (y.num*(x.den:Int)).natAbs<=274877906944:=by rw[Int.natAbs_mul,Int.natAbs_natCast];have:=a1c y.num.natAbs x.den;have:=a0F y;have:=a0I x;have:=hlx.out;have:=hly.out;omega
  have bdd:lg (x.den*y.den)<=274877906944:=by have:=a1c x.den y.den;have:=a0I x;have:=a0I y;have:=hlx.out;have:=hly.out;omega
  have bnn:lg (x.num*y.num).natAbs<=274877906944:=by rw[Int.natAbs_mul];have:=a1c x.num.natAbs y.num.natAbs;have:=a0F x;have:=a0F y;have:=hlx.out;have:=hly.out;omega
  have bd0:0<x.den*y.den:=Nat.mul_pos x.den_pos y.den_pos;have hB:=hid (And.intro b0 b1);have hS:Hid (∀W',Ext wc.drew W'->W'.cell? ⟨b,0,none⟩=some (.bool s3)/\W'.cell? ⟨b,1,none⟩=some (.slice a3 n3 c3)/\W'.cell? ⟨b,2,none⟩=some (.slice d3 k3 e3)/\W'.cell? ⟨b+1,0,none⟩=some (.bool s4)/\W'.cell? ⟨b+1,1,none⟩=some (.slice a4 n4 c4)/\W'.cell? ⟨b+1,2,none⟩=some (.slice d4 k4 e4)):=
   hid fun W' h=>⟨(b0.ext0 (hEd.trans h)).cell 0 rfl,(b0.ext0 (hEd.trans h)).cell 1 rfl,(b0.ext0 (hEd.trans h)).cell 2 rfl,(b1.ext0 (hEd.trans h)).cell 0 rfl,(b1.ext0 (hEd.trans h)).cell 1 rfl,(b1.ext0 (hEd.trans h)).cell 2 rfl⟩
  have hl3:=hxdn.len0;have hl4:=hydn.len0;rw[a4a]at hl3 hl4;have hxv:=hxzd.zv bxn;have hyv:=hyzd.zv byn;have hfin:Hid (mkRat (x.num*y.num) (x.den*y.den)=x*y):=hid (Rat.mul_def' x y).symm;by_cases hk:k3=0/\k4=0
  ·have hd3:=hid (hl3.1 hk.1)
   have hd4:=hid (hl4.1 hk.2);obtain⟨rfl,rfl⟩:=hk;have hsum:Hid (((x.num*y.num:Int):Rat)=x*y):=hid (by
    rw[Rat.intCast_mul]
    conv=>rhs;rw[<-Rat.mkRat_self x,<-Rat.mkRat_self y]
    rw[hd3.out,hd4.out,<-Rat.mk_den_one,<-Rat.mk_den_one,Rat.mk_eq_mkRat,Rat.mk_eq_mkRat])
   clear hl3 hl4;go_wp2_with fail
   refine(c0K (a0e X b 3) wc _ _ _ _ hXc (hxz.zv bxn) (hyz.zv byn)).mono ?_;rintro ee w5 ⟨hE5,u5,rfl,s6,a6,c6,l6,rfl,h61,h62,h63⟩;have b2':=b2.ext0 hE5;have hcq:=a6i.ofInt h62;rw[hsum.out]at hcq;clear k00 k01 k02 k10 k11 k12;go_wp2_with ((with_reducible show wpList _ _ _ (⟨_, .store _ _ _,_,_,_,_⟩::_) _ _);refine a0c a0w rfl rfl b2' rfl rfl (a2C _ _ _ _ _ _ _) ?_;intro w7 r1 r2)
   have h7:=(h63.mono (a0a.mono _) (a0i r2 (by omega) (by omega))).mono (a0a.mono _) a0k;exact bodyPost_ret (a0d rfl rfl a0w r1 rfl) rfl ⟨ExtX.box (hE1.trans hE5) r2 (by omega),_,rfl,s6,a6,c6,l6,none,0,[],rfl,h61,Nat.le_refl _,hcq,h7,Sl.nil _ _ _ _⟩
  ·rcases(by omega:¬k3=0\/(k3=0/\¬k4=0))with h3|⟨h3,h4⟩
   ·have hI:((k3:Int)==0)=false:=a1S (by omega)
    clear hk hl3 hl4 h3;go_wp2_with fail
    go_region_held3 (fun w'=>w'.cell? ⟨b,0,none⟩=some (.bool s3)/\w'.cell? ⟨b,1,none⟩=some (.slice a3 n3 c3)/\w'.cell? ⟨b,2,none⟩=some (.slice d3 k3 e3)/\w'.cell? ⟨b+1,0,none⟩=some (.bool s4)/\w'.cell? ⟨b+1,1,none⟩=some (.slice a4 n4 c4)/\w'.cell? ⟨b+1,2,none⟩=some (.slice d4 k4 e4))
     (first|exact hS.out _ t1|exact hS.out _ t2|exact hS.out _ t3|exact hS.out _ t4|exact hS.out _ t5|exact⟨((hB.out.1.ext0 (hEd.trans t5)).ext (bb2.set3 _ _ _).2 (a0b (by omega))).cell 0 rfl,((hB.out.1.ext0 (hEd.trans t5)).ext (bb2.set3 _ _ _).2 (a0b (by omega))).cell 1 rfl,((hB.out.1.ext0 (hEd.trans t5)).ext (bb2.set3 _ _ _).2 (a0b (by omega))).cell 2 rfl,((hB.out.2.ext0 (hEd.trans t5)).ext (bb2.set3 _ _ _).2 (a0b (by omega))).cell 0 rfl,((hB.out.2.ext0 (hEd.trans t5)).ext (bb2.set3 _ _ _).2 (a0b (by omega))).cell 1 rfl,((hB.out.2.ext0 (hEd.trans t5)).ext (bb2.set3 _ _ _).2 (a0b (by omega))).cell 2 rfl⟩|go_keep)
     (first|(go_at_call 207;(with_reducible refine(c0K (a0e X b 3) wc.drew _ _ _ _ hXd hxv hyv).mono ?_);rintro ee w5 ⟨t1,u5,rfl,hu5⟩;have hX5:=HX.ext hXd t1;have hx5:=mkx QC.mono hxd t1)|(go_at_call 146;(with_reducible refine(b0V (a0e X b 3) w5 _ x hX5 hx5).mono ?_);rintro ee w6 ⟨hE6,u6,rfl,hu6⟩;have t2:=t1.trans hE6;have hX6:=HX.ext hXd t2;have hy6:=mkx QC.mono hyd t2)|(go_at_call 146;(with_reducible refine(b0V (a0e X b 3) w6 _ y hX6 hy6).mono ?_);rintro ee w7 ⟨hE7,u7,rfl,hu7⟩;have t3:=t2.trans hE7;have hX7:=HX.ext hXd t3;have hm6:=(mkx NC.mono hu6 hE7).nv (Nat.le_trans bxd (by decide));have hm7:=hu7.nv (Nat.le_trans byd (by decide)))|(go_at_call 173;(with_reducible refine(b7c hX7 hm6 hm7).mono ?_);rintro ee w8 ⟨hE8,u8,rfl,hu8⟩;have t4:=t3.trans hE8;have hX8:=HX.ext hXd t4;have hz5:=mkx ZC.mono hu5 (hE6.trans (hE7.trans hE8)))|(go_at_call 172;(with_reducible refine(a5O (a0e X b 3) w8 _ _ _ _ hX8 hz5 hu8 (Nat.le_trans bnn (by decide)) (Nat.le_trans bdd (by decide)) bd0).mono ?_);rintro ee w13 ⟨hE13,u13,rfl,hu13⟩;obtain⟨s13,a13,n13,c13,d13,k13,e13,rfl⟩:=hu13.shape;have t5:=t4.trans hE13;have bb2:=b2.ext0 (hEd.trans t5);have g0:=bb2.cell 0 rfl;have g1:=bb2.cell 1 rfl;have g2:=bb2.cell 2 rfl;have f0:=bb2.frozen 0;have f1:=bb2.frozen 1;have f2:=bb2.frozen 2))
    obtain⟨r1,r2⟩:=bb2.set3 (.bool s13) (.slice a13 n13 c13) (.slice d13 k13 e13);have h7:=QC.mono _ _ _ _ a0k (QC.mono _ _ _ _ (a0i r2 (by omega) (by omega)) hu13);rw[hfin.out]at h7;have hEf:Ext w _:=ExtX.box (hE1.trans (hEd.trans t5)) r2 (by omega);clear g0 g1 g2 f0 f1 f2 k00 k01 k02 k10 k11 k12 hS hB;go_wp2_with fail
    exact bodyPost_ret (a0d rfl rfl a0w r1 rfl) rfl ⟨hEf,_,rfl,h7⟩
   ·have hI:((k4:Int)==0)=false:=a1S (by omega)
    subst h3;clear hk hl3 hl4 h4;go_wp2_with fail
    go_region_held3 (fun w'=>w'.cell? ⟨b,0,none⟩=some (.bool s3)/\w'.cell? ⟨b,1,none⟩=some (.slice a3 n3 c3)/\w'.cell? ⟨b,2,none⟩=some (.slice d3 0 e3)/\w'.cell? ⟨b+1,0,none⟩=some (.bool s4)/\w'.cell? ⟨b+1,1,none⟩=some (.slice a4 n4 c4)/\w'.cell? ⟨b+1,2,none⟩=some (.slice d4 k4 e4))
     (first|exact hS.out _ t1|exact hS.out _ t2|exact hS.out _ t3|exact hS.out _ t4|exact hS.out _ t5|exact⟨((hB.out.1.ext0 (hEd.trans t5)).ext (bb2.set3 _ _ _).2 (a0b (by omega))).cell 0 rfl,((hB.out.1.ext0 (hEd.trans t5)).ext (bb2.set3 _ _ _).2 (a0b (by omega))).cell 1 rfl,((hB.out.1.ext0 (hEd.trans t5)).ext (bb2.set3 _ _ _).2 (a0b (by omega))).cell 2 rfl,((hB.out.2.ext0 (hEd.trans t5)).ext (bb2.set3 _ _ _).2 (a0b (by omega))).cell 0 rfl,((hB.out.2.ext0 (hEd.trans t5)).ext (bb2.set3 _ _ _).2 (a0b (by omega))).cell 1 rfl,((hB.out.2.ext0 (hEd.trans t5)).ext (bb2.set3 _ _ _).2 (a0b (by omega))).cell 2 rfl⟩|go_keep)
     (first|(go_at_call 207;(with_reducible refine(c0K (a0e X b 3) wc.drew _ _ _ _ hXd hxv hyv).mono ?_);rintro ee w5 ⟨t1,u5,rfl,hu5⟩;have hX5:=HX.ext hXd t1;have hx5:=mkx QC.mono hxd t1)|(go_at_call 146;(with_reducible refine(b0V (a0e X b 3) w5 _ x hX5 hx5).mono ?_);rintro ee w6 ⟨hE6,u6,rfl,hu6⟩;have t2:=t1.trans hE6;have hX6:=HX.ext hXd t2;have hy6:=mkx QC.mono hyd t2)|(go_at_call 146;(with_reducible refine(b0V (a0e X b 3) w6 _ y hX6 hy6).mono ?_);rintro ee w7 ⟨hE7,u7,rfl,hu7⟩;have t3:=t2.trans hE7;have hX7:=HX.ext hXd t3;have hm6:=(mkx NC.mono hu6 hE7).nv (Nat.le_trans bxd (by decide));have hm7:=hu7.nv (Nat.le_trans byd (by decide)))|(go_at_call 173;(with_reducible refine(b7c hX7 hm6 hm7).mono ?_);rintro ee w8 ⟨hE8,u8,rfl,hu8⟩;have t4:=t3.trans hE8;have hX8:=HX.ext hXd t4;have hz5:=mkx ZC.mono hu5 (hE6.trans (hE7.trans hE8)))|(go_at_call 172;(with_reducible refine(a5O (a0e X b 3) w8 _ _ _ _ hX8 hz5 hu8 (Nat.le_trans bnn (by decide)) (Nat.le_trans bdd (by decide)) bd0).mono ?_);rintro ee w13 ⟨hE13,u13,rfl,hu13⟩;obtain⟨s13,a13,n13,c13,d13,k13,e13,rfl⟩:=hu13.shape;have t5:=t4.trans hE13;have bb2:=b2.ext0 (hEd.trans t5);have g0:=bb2.cell 0 rfl;have g1:=bb2.cell 1 rfl;have g2:=bb2.cell 2 rfl;have f0:=bb2.frozen 0;have f1:=bb2.frozen 1;have f2:=bb2.frozen 2))
    obtain⟨r1,r2⟩:=bb2.set3 (.bool s13) (.slice a13 n13 c13) (.slice d13 k13 e13);have h7:=QC.mono _ _ _ _ a0k (QC.mono _ _ _ _ (a0i r2 (by omega) (by omega)) hu13);rw[hfin.out]at h7;have hEf:Ext w _:=ExtX.box (hE1.trans (hEd.trans t5)) r2 (by omega);clear g0 g1 g2 f0 f1 f2 k00 k01 k02 k10 k11 k12 hS hB;go_wp2_with fail
    exact bodyPost_ret (a0d rfl rfl a0w r1 rfl) rfl ⟨hEf,_,rfl,h7⟩
theorem a6e (s:Bool) (a d:Option Addr) (n c k e:Nat) (W:World):(Instr.field 32 (.agg #[.bool s, .slice a n c, .slice d k e]) 0).run Tryz.prog W= .ok (.agg #[.bool s, .slice a n c]) W:=by kernel_rfl
set_option maxRecDepth 100000 in
theorem a5P (X:Nat->Bool) (w:World) (u:Value) (x:Rat) (hX:HX X w) (hu:QV (mk X w) u x):Calls Tryz.prog 155 #[u] w (a6I w x.num.sign):=by
 have hlx:=hid hu.hq;obtain⟨s1,a1,n1,c1,d1,k1,e1,rfl⟩:=hu.shape;obtain⟨W,hW,hE,b0,hz⟩:=a1I w #[.bool s1, .slice a1 n1 c1, .slice d1 k1 e1] 32;have hXW:HX X W:=hX.ext hE;have hu1:=mkx QV.mono hu hE;obtain⟨b,hb⟩:∃b,w.heap.size=b:=⟨_,rfl⟩;rw[hb]at b0 hz;have k00:=b0.cell 0 rfl;have k01:=b0.cell 1 rfl;have k02:=b0.cell 2 rfl;have hfl:=a6e;clear hu;go_enter Tryz.func155,Tryz.ntmps155
 go_wp2_with fail
 refine(a6d X W _ x hXW hu1).mono ?_;rintro ee w5 ⟨hE5,u5,rfl,hq5⟩;obtain⟨s5,a5,n5,c5,d5,k5,e5,rfl⟩:=hq5.shape;have hz5:=hq5.num.1.zv (Nat.le_trans (Nat.le_trans (a0F x) hlx.out) (by omega));clear k00 k01 k02;go_wp2_with fail
 refine(b5J X w5 _ _ (hXW.ext hE5) hz5).mono ?_;rintro ee w6 ⟨hE6,rfl⟩;go_wp2_with fail
 go_ret
 exact⟨hE.trans (hE5.trans hE6),rfl⟩
theorem b7j (x:Rat):dn (-x)=dn x:=by unfold dn;rw[Rat.neg_den]
set_option maxRecDepth 100000 in
theorem c1a (X:Nat->Bool) (w:World) (u:Value) (x:Rat) (hX:HX X w) (hu:QV (mk X w) u x):Calls Tryz.prog 170 #[u] w (a1Z X w QC (-x)):=by
 have hlx:=hid hu.hq;obtain⟨s1,a1,n1,c1,d1,k1,e1,rfl⟩:=hu.shape;obtain⟨W,hW,hE,b0,b1,hz⟩:=a2a w #[.bool s1, .slice a1 n1 c1, .slice d1 k1 e1] #[.bool false, .slice none 0 0, .slice none 0 0] 32 32;have hXW:HX (a0e X w.heap.size 2) W:=hX.boxes hz;have hu1:=QV.mono _ _ _ _ (a0q (nb:=2) hE) hu;obtain⟨b,hb⟩:∃b,w.heap.size=b:=⟨_,rfl⟩;have hbw:w.heap.size<=b:=by omega
 rw[hb]at b0 b1 hz hXW hu1;have k00:=b0.cell 0 rfl;have k01:=b0.cell 1 rfl;have k02:=b0.cell 2 rfl;clear hu;go_enter Tryz.func170,Tryz.ntmps170
 go_wp2_with fail
 refine(a6d (a0e X b 2) W _ x hXW hu1).mono ?_;rintro e w5 ⟨hE5,u5,rfl,hq5⟩;obtain⟨s5,a5,n5,c5,d5,k5,e5,rfl⟩:=hq5.shape;have hX5:=hXW.ext hE5;have bb0:=b0.ext0 hE5;have bb1:=b1.ext0 hE5;clear k00 k01 k02;go_upto_region 2 with((with_reducible show wpList _ _ _ (⟨_, .store _ _ _,_,_,_,_⟩::_) _ _);refine a0c a0w rfl rfl bb0 rfl rfl (a2C _ _ _ _ _ _ _) ?_;intro w7 r1 r2;have k00:=r1.cell 0 rfl;have k01:=r1.cell 1 rfl;have k02:=r1.cell 2 rfl)
 have hX7:=hX5.ext r2;have bb3:=bb1.ext r2 (a0b (by omega));have hx7:=QC.mono _ _ _ _ (a0i (X:=X) (lo:=b) (nb:=2) r2 (by omega) (by omega)) hq5;have hE7:Ext w w7:=ExtX.box (hE.trans hE5) r2 (by omega);obtain⟨hxz,hxm,hxdn⟩:=hx7.num;have hEd:Ext w7 w7.drew:=(ExtX.refl w7).drew;have hXd:HX (a0e X b 2) w7.drew:=hX7;have hxzd:ZC (mk (a0e X b 2) w7.drew) (.agg #[.bool s5, .slice a5 n5 c5]) x.num:=hxz;have hxdd:NC (mk (a0e X b 2) w7.drew) (.slice d5 k5 e5) (dn x):=hxdn;have bxn:lg x.num.natAbs<=549755813888:=Nat.le_trans (Nat.le_trans (a0F x) hlx.out) (by omega);have bxd:lg (dn x)<=549755813888:=Nat.le_trans (Nat.le_trans (b3A x) hlx.out) (by omega);have hxv:=hxzd.zv bxn;have hS:Hid (∀W',Ext w7.drew W'->W'.cell? ⟨b,0,none⟩=some (.bool s5)/\W'.cell? ⟨b,1,none⟩=some (.slice a5 n5 c5)/\W'.cell? ⟨b,2,none⟩=some (.slice d5 k5 e5)):=
  hid fun W' h=>⟨(r1.ext0 (hEd.trans h)).cell 0 rfl,(r1.ext0 (hEd.trans h)).cell 1 rfl,(r1.ext0 (hEd.trans h)).cell 2 rfl⟩
 go_region_held3 (fun w'=>w'.cell? ⟨b,0,none⟩=some (.bool s5)/\w'.cell? ⟨b,1,none⟩=some (.slice a5 n5 c5)/\w'.cell? ⟨b,2,none⟩=some (.slice d5 k5 e5))
  (first|exact hS.out _ t1|exact hS.out _ t2|exact⟨((r1.ext0 (hEd.trans t2)).ext (bb2.set3 _ _ _).2 (a0b (by omega))).cell 0 rfl,((r1.ext0 (hEd.trans t2)).ext (bb2.set3 _ _ _).2 (a0b (by omega))).cell 1 rfl,((r1.ext0 (hEd.trans t2)).ext (bb2.set3 _ _ _).2 (a0b (by omega))).cell 2 rfl⟩|go_keep)
  (first|(go_at_call 231;(with_reducible refine(c1I (a0e X b 2) w7.drew _ _ hXd hxv).mono ?_);rintro ee w8 ⟨t1,u8,rfl,s8,a8,c8,l8,rfl,h81,h82,h83⟩;have hX8:=HX.ext hXd t1;have hm8:=(mkx NC.mono hxdd t1).nv (Nat.le_trans bxd (by decide));have hz8:=NC.nv (NC.zero (mk (a0e X b 2) w8)) (by decide))|(go_at_call 122;(with_reducible refine(c0V hX8 hm8 hz8).mono ?_);rintro ee w9 ⟨hE9,u9,rfl,a9,c9,l9,rfl,h91,h92,h93⟩;have t2:=t1.trans hE9;have hh8:=Sl.mono (a0a.mono _) (a0m hE9) h83;have bb2:=bb3.ext0 (hEd.trans t2);have g0:=bb2.cell 0 rfl;have g1:=bb2.cell 1 rfl;have g2:=bb2.cell 2 rfl;have f0:=bb2.frozen 0;have f1:=bb2.frozen 1;have f2:=bb2.frozen 2))
 obtain⟨q1,q2⟩:=bb2.set3 (.bool s8) (.slice a8 l8.length c8) (.slice a9 l9.length c9);have hz:ZC (mk (a0e X b 2) w9) (.agg #[.bool s8, .slice a8 l8.length c8]) (-x).num:=⟨s8,a8,c8,l8,rfl,h81,by rw[Rat.neg_num];exact h82,hh8⟩;have hd:NC (mk (a0e X b 2) w9) (.slice a9 l9.length c9) (dn (-x)):=⟨a9,c9,l9,rfl,h91,by rw[b7j];exact h92,h93⟩;have h7:=QC.mono _ _ _ _ a0k (QC.mono _ _ _ _ (a0i q2 (by omega) (by omega)) (QC.of hz hd));have hEf:Ext w _:=ExtX.box (hE7.trans (hEd.trans t2)) q2 (by omega);clear g0 g1 g2 f0 f1 f2 k00 k01 k02 hS;go_wp2_with fail
 exact bodyPost_ret (a0d rfl rfl a0w q1 rfl) rfl ⟨hEf,_,rfl,h7⟩
set_option maxRecDepth 100000 in
theorem c0N (X:Nat->Bool) (w:World) (u v:Value) (x y:Rat) (hX:HX X w) (hu:QV (mk X w) u x) (hv:QV (mk X w) v y):Calls Tryz.prog 111 #[u,v] w (a1Z X w QC (x - y)):=by
 have hlx:=hid hu.hq;have hly:=hid hv.hq;obtain⟨s1,a1,n1,c1,d1,k1,e1,rfl⟩:=hu.shape;obtain⟨s2,a2,n2,c2,d2,k2,e2,rfl⟩:=hv.shape;obtain⟨W,hW,hE,b0,b1,b2,hz⟩:=a2B w #[.bool s1, .slice a1 n1 c1, .slice d1 k1 e1] #[.bool s2, .slice a2 n2 c2, .slice d2 k2 e2] #[.bool false, .slice none 0 0, .slice none 0 0] 32 32 32;have hXW:HX (a0e X w.heap.size 3) W:=hX.boxes hz;have hu1:=QV.mono _ _ _ _ (a0q (nb:=3) hE) hu;have hv1:=QV.mono _ _ _ _ (a0q (nb:=3) hE) hv;obtain⟨b,hb⟩:∃b,w.heap.size=b:=⟨_,rfl⟩;have hbw:w.heap.size<=b:=by omega
 rw[hb]at b0 b1 b2 hz hXW hu1 hv1;have hEd:Ext W W.drew:=(ExtX.refl W).drew;have hXd:HX (a0e X b 3) W.drew:=hXW;have hud:QV (mk (a0e X b 3) W.drew) (.agg #[.bool s1, .slice a1 n1 c1, .slice d1 k1 e1]) x:=hu1;have hvd:QV (mk (a0e X b 3) W.drew) (.agg #[.bool s2, .slice a2 n2 c2, .slice d2 k2 e2]) y:=hv1;have k00:=b0.cell 0 rfl;have k01:=b0.cell 1 rfl;have k02:=b0.cell 2 rfl;have k10:=b1.cell 0 rfl;have k11:=b1.cell 1 rfl;have k12:=b1.cell 2 rfl;clear hu hv;have hB:=hid (And.intro b0 b1);have hS:Hid (∀W',Ext W.drew W'->W'.cell? ⟨b,0,none⟩=some (.bool s1)/\W'.cell? ⟨b,1,none⟩=some (.slice a1 n1 c1)/\W'.cell? ⟨b,2,none⟩=some (.slice d1 k1 e1)/\W'.cell? ⟨b+1,0,none⟩=some (.bool s2)/\W'.cell? ⟨b+1,1,none⟩=some (.slice a2 n2 c2)/\W'.cell? ⟨b+1,2,none⟩=some (.slice d2 k2 e2)):=
  hid fun W' h=>⟨(b0.ext0 (hEd.trans h)).cell 0 rfl,(b0.ext0 (hEd.trans h)).cell 1 rfl,(b0.ext0 (hEd.trans h)).cell 2 rfl,(b1.ext0 (hEd.trans h)).cell 0 rfl,(b1.ext0 (hEd.trans h)).cell 1 rfl,(b1.ext0 (hEd.trans h)).cell 2 rfl⟩
 have hny:=hid (show hq (-y)<=68719476736 by rw[a4D];exact hly.out);have hsum:Hid (x+ -y=x - y):=hid (Rat.sub_eq_add_neg x y).symm;go_enter Tryz.func111,Tryz.ntmps111
 go_upto_region 1 with(fail)
 go_region_held3 (fun w'=>w'.cell? ⟨b,0,none⟩=some (.bool s1)/\w'.cell? ⟨b,1,none⟩=some (.slice a1 n1 c1)/\w'.cell? ⟨b,2,none⟩=some (.slice d1 k1 e1)/\w'.cell? ⟨b+1,0,none⟩=some (.bool s2)/\w'.cell? ⟨b+1,1,none⟩=some (.slice a2 n2 c2)/\w'.cell? ⟨b+1,2,none⟩=some (.slice d2 k2 e2))
  (first|exact hS.out _ t1|exact hS.out _ t2|exact⟨((hB.out.1.ext0 (hEd.trans t2)).ext (bb2.set3 _ _ _).2 (a0b (by omega))).cell 0 rfl,((hB.out.1.ext0 (hEd.trans t2)).ext (bb2.set3 _ _ _).2 (a0b (by omega))).cell 1 rfl,((hB.out.1.ext0 (hEd.trans t2)).ext (bb2.set3 _ _ _).2 (a0b (by omega))).cell 2 rfl,((hB.out.2.ext0 (hEd.trans t2)).ext (bb2.set3 _ _ _).2 (a0b (by omega))).cell 0 rfl,((hB.out.2.ext0 (hEd.trans t2)).ext (bb2.set3 _ _ _).2 (a0b (by omega))).cell 1 rfl,((hB.out.2.ext0 (hEd.trans t2)).ext (bb2.set3 _ _ _).2 (a0b (by omega))).cell 2 rfl⟩|go_keep)
  (first|(go_at_call 170;(with_reducible refine(c1a (a0e X b 3) W.drew _ y hXd hvd).mono ?_);rintro ee w5 ⟨t1,u5,rfl,hu5⟩;have hX5:=HX.ext hXd t1;have hx5:=mkx QV.mono hud t1)|(go_at_call 112;(with_reducible refine(b9Z (a0e X b 3) w5 _ _ x (-y) hX5 hx5 (hu5.qv hny.out)).mono ?_);rintro ee w6 ⟨hE6,u6,rfl,hu6⟩;obtain⟨s6,a6,n6,c6,d6,k6,e6,rfl⟩:=hu6.shape;have t2:=t1.trans hE6;have bb2:=b2.ext0 (hEd.trans t2);have g0:=bb2.cell 0 rfl;have g1:=bb2.cell 1 rfl;have g2:=bb2.cell 2 rfl;have f0:=bb2.frozen 0;have f1:=bb2.frozen 1;have f2:=bb2.frozen 2))
 rw[hsum.out]at hu6;obtain⟨q1,q2⟩:=bb2.set3 (.bool s6) (.slice a6 n6 c6) (.slice d6 k6 e6);have h7:=QC.mono _ _ _ _ a0k (QC.mono _ _ _ _ (a0i q2 (by omega) (by omega)) hu6);have hEf:Ext w _:=ExtX.box (hE.trans (hEd.trans t2)) q2 (by omega);clear g0 g1 g2 f0 f1 f2 k00 k01 k02 k10 k11 k12 hS hB;go_wp2_with fail
 exact bodyPost_ret (a0d rfl rfl a0w q1 rfl) rfl ⟨hEf,_,rfl,h7⟩
def e5 (b:Bool):Int:=if b then 5 else 0
def b8q (X:Nat->Bool) (w:World) (q:Rat) (c:Int) (e:Ending) (w':World):Prop:=Ext w w'/\∃u,e= .returned (.tuple #[u, .int .i64 c])/\QC (mk X w') u q
theorem b7k (x y:Int) (h:0<y):mkRat x y.natAbs=(x:Rat)/(y:Rat):=by
 rw[Rat.mkRat_eq_div,<-Rat.intCast_natCast,Int.natAbs_of_nonneg (by omega)]
theorem c0a (x y:Int) (h:y<0):mkRat (-x) y.natAbs=(x:Rat)/(y:Rat):=by
 rw[Rat.mkRat_eq_div,<-Rat.intCast_natCast,Int.ofNat_natAbs_of_nonpos (by omega),Rat.intCast_neg,Rat.intCast_neg,Rat.div_def,Rat.div_def,show(-(y:Rat))⁻¹= -(y:Rat)⁻¹ by grind];grind
theorem _root_.Go.Rep.ZC.mag {h:Mem} {s:Bool} {ao:Option Addr} {n c:Nat} {y:Int} (hu:ZC h (.agg #[.bool s, .slice ao n c]) y):NC h (.slice ao n c) y.natAbs:=by
 obtain⟨_,_,_,l,heq,h1,h2,h3⟩:=hu;simp only[Value.agg.injEq,Array.mk.injEq,List.cons.injEq,Value.bool.injEq,Value.slice.injEq,and_true]at heq;obtain⟨rfl,rfl,rfl,rfl⟩:=heq;exact⟨_,_,_,rfl,h1,h2.2,h3⟩
theorem _root_.Go.Rep.ZC.shape {h:Mem} {u:Value} {q:Int} (hu:ZC h u q):∃s ao n c,u= .agg #[.bool s, .slice ao n c]:=by
 obtain⟨s,ao,c,m,rfl,_⟩:=hu;exact⟨_,_,_,_,rfl⟩
set_option maxRecDepth 100000 in
theorem c1b (X:Nat->Bool) (w:World) (u v:Value) (x y:Int) (hX:HX X w) (hu:ZC (mk X w) u x) (hv:ZC (mk X w) v y) (hx:lg x.natAbs<=549755813888) (hy:lg y.natAbs<=549755813888):Calls Tryz.prog 270 #[u,v] w (b8q X w ((x:Rat)/(y:Rat)) (e5 (decide (y=0)))):=by
 have hlx:=hid hx;have hly:=hid hy;obtain⟨s1,a1,n1,c1,rfl⟩:=hu.shape;obtain⟨s2,a2,n2,c2,rfl⟩:=hv.shape;obtain⟨W,hW,hE,b0,b1,b2,hz⟩:=a2B w #[.bool s1, .slice a1 n1 c1] #[.bool s2, .slice a2 n2 c2] #[.bool false, .slice none 0 0, .slice none 0 0] 30 30 32;have hXW:HX (a0e X w.heap.size 3) W:=hX.boxes hz;have hu1:=ZC.mono _ _ _ _ (a0q (nb:=3) hE) hu;have hv1:=ZC.mono _ _ _ _ (a0q (nb:=3) hE) hv;obtain⟨b,hb⟩:∃b,w.heap.size=b:=⟨_,rfl⟩;have hbw:w.heap.size<=b:=by omega
 rw[hb]at b0 b1 b2 hz hXW hu1 hv1;have hvz:=hv1.zv hy;have huz:=hu1.zv hx;have k00:=b0.cell 0 rfl;have k01:=b0.cell 1 rfl;have k10:=b1.cell 0 rfl;have k11:=b1.cell 1 rfl;have h0:y=0\/0<y\/y<0:=by omega
 obtain⟨ec,hec'⟩:∃ec:Int,e5 (decide (y=0))=ec:=⟨_,rfl⟩;obtain⟨q,hq'⟩:∃q:Rat,(x:Rat)/(y:Rat)=q:=⟨_,rfl⟩;rw[hec',hq'];clear hu hv hx hy;go_enter Tryz.func270,Tryz.ntmps270
 go_wp2_with fail
 refine(b5J (a0e X b 3) W _ _ hXW hvz).mono ?_;rintro e w5 ⟨hE5,rfl⟩;have bb0:=b0.ext0 hE5;have bb1:=b1.ext0 hE5;have bb2:=b2.ext0 hE5;have j00:=bb0.cell 0 rfl;have j01:=bb0.cell 1 rfl;have j10:=bb1.cell 0 rfl;have j11:=bb1.cell 1 rfl;clear k00 k01 k10 k11;rcases h0 with h0|h0|h0
 ·have hec:Hid ((5:Int)=ec):=hid (by rw[<-hec',decide_eq_true h0];rfl)
  have hres:Hid ((0:Rat)=q):=hid (by rw[<-hq',h0,Rat.intCast_zero,Rat.div_def,Rat.inv_zero,Rat.mul_zero]);have hI:(y.sign==0)=true:=by rw[h0];rfl
  generalize y.sign=sgy at*;clear h0 hec' hq';go_wp2_with ((with_reducible show wpList _ _ _ (⟨_, .store _ _ _,_,_,_,_⟩::_) _ _);refine a0c a0w rfl rfl bb2 rfl rfl (a2C _ _ _ _ _ _ _) ?_;intro w7 r1 r2)
  exact bodyPost_ret (a1z rfl rfl a0w r1 rfl) rfl ⟨ExtX.box (hE.trans hE5) r2 (by omega),_,by rw[<-hec.out];rfl,by rw[<-hres.out];exact QC.zero _⟩
 ·have hec:Hid (ec=(0:Int)):=hid (by rw[<-hec',decide_eq_false (by omega)];rfl)
  have hres:Hid (mkRat x y.natAbs=q):=hid (by rw[<-hq'];exact b7k x y h0);have hI:(y.sign==0)=false:=by rw[Int.sign_eq_one_of_pos h0];rfl
  have hI2:decide (y.sign<0)=false:=by rw[Int.sign_eq_one_of_pos h0];rfl
  have hy0:Hid (0<y.natAbs):=hid (by omega);have hvz5:=mkx ZV.mono hvz hE5;have hXs5:=hXW.ext hE5;clear h0 hec' hq';go_wp2_with fail
  refine(b5J (a0e X b 3) w5 _ _ hXs5 hvz5).mono ?_;rintro e ws ⟨hE6,rfl⟩;generalize y.sign=sgy at*;have bz0:=bb0.ext0 hE6;have bz1:=bb1.ext0 hE6;have bz2:=bb2.ext0 hE6;have hXs:=hXs5.ext hE6;have hEs:=hE.trans (hE5.trans hE6);have hzn:=mkx ZC.mono (mkx ZC.mono hu1 hE5) hE6;have hzd:=(mkx ZC.mono (mkx ZC.mono hv1 hE5) hE6).mag;clear j00 j01 j10 j11;generalize hsz:s1=sz at*;generalize haz:a1=az at*;generalize hnz:n1=nz at*;generalize hcz:c1=cz at*;generalize hxz:x=z at*;have bzn:=hlx;have hz0:Hid (z+0=z):=hid (by omega);go_upto_region 5 with(fail)
  have hEd:Ext ws ws.drew:=(ExtX.refl ws).drew;have hXd:HX (a0e X b 3) ws.drew:=hXs;have hxzd:ZC (mk (a0e X b 3) ws.drew) (.agg #[.bool sz, .slice az nz cz]) z:=hzn;have hydd:NC (mk (a0e X b 3) ws.drew) (.slice a2 n2 c2) y.natAbs:=hzd;have hxv:=hxzd.zv bzn.out;have h00:=ZC.zv (ZC.zero (mk (a0e X b 3) ws.drew)) (by decide);have hB:=hid (And.intro bz0 bz1);have hS:Hid (∀W',Ext ws.drew W'->W'.cell? ⟨b,0,none⟩=some (.bool sz)/\W'.cell? ⟨b,1,none⟩=some (.slice az nz cz)/\W'.cell? ⟨b+1,0,none⟩=some (.bool s2)/\W'.cell? ⟨b+1,1,none⟩=some (.slice a2 n2 c2)):=
   hid fun W' h=>⟨(bz0.ext0 (hEd.trans h)).cell 0 rfl,(bz0.ext0 (hEd.trans h)).cell 1 rfl,(bz1.ext0 (hEd.trans h)).cell 0 rfl,(bz1.ext0 (hEd.trans h)).cell 1 rfl⟩
  have k00:=bz0.cell 0 rfl;have k01:=bz0.cell 1 rfl;have k10:=bz1.cell 0 rfl;have k11:=bz1.cell 1 rfl;go_region_held3 (fun w'=>w'.cell? ⟨b,0,none⟩=some (.bool sz)/\w'.cell? ⟨b,1,none⟩=some (.slice az nz cz)/\w'.cell? ⟨b+1,0,none⟩=some (.bool s2)/\w'.cell? ⟨b+1,1,none⟩=some (.slice a2 n2 c2))
   (first|exact hS.out _ t1|exact hS.out _ t2|exact⟨((hB.out.1.ext0 (hEd.trans t2)).ext (bb2.set3 _ _ _).2 (a0b (by omega))).cell 0 rfl,((hB.out.1.ext0 (hEd.trans t2)).ext (bb2.set3 _ _ _).2 (a0b (by omega))).cell 1 rfl,((hB.out.2.ext0 (hEd.trans t2)).ext (bb2.set3 _ _ _).2 (a0b (by omega))).cell 0 rfl,((hB.out.2.ext0 (hEd.trans t2)).ext (bb2.set3 _ _ _).2 (a0b (by omega))).cell 1 rfl⟩|go_keep)
   (first|(go_at_call 171;(with_reducible refine(b9W (a0e X b 3) ws.drew _ _ _ _ hXd hxv h00).mono ?_);rintro ee w8 ⟨t1,u8,rfl,hu8⟩;rw[hz0.out]at hu8;have hX8:=HX.ext hXd t1;have hm8:=mkx NC.mono hydd t1)|(go_at_call 172;(with_reducible refine(a5O (a0e X b 3) w8 _ _ z y.natAbs hX8 hu8 hm8 bzn.out hly.out hy0.out).mono ?_);rintro ee w9 ⟨hE9,u9,rfl,hu9⟩;obtain⟨s9,a9,n9,c9,d9,k9,e9,rfl⟩:=hu9.shape;have t2:=t1.trans hE9;have bb2:=bz2.ext0 (hEd.trans t2);have g0:=bb2.cell 0 rfl;have g1:=bb2.cell 1 rfl;have g2:=bb2.cell 2 rfl;have f0:=bb2.frozen 0;have f1:=bb2.frozen 1;have f2:=bb2.frozen 2))
  rw[hres.out]at hu9;obtain⟨q1,q2⟩:=bb2.set3 (.bool s9) (.slice a9 n9 c9) (.slice d9 k9 e9);have h7:=QC.mono _ _ _ _ a0k (QC.mono _ _ _ _ (a0i q2 (by omega) (by omega)) hu9);have hEf:Ext w _:=ExtX.box (hEs.trans (hEd.trans t2)) q2 (by omega);clear g0 g1 g2 f0 f1 f2 k00 k01 k10 k11 hS hB;go_wp2_with fail
  exact bodyPost_ret (a1z rfl rfl a0w q1 rfl) rfl ⟨hEf,_,by rw[hec.out];rfl,h7⟩
 ·have hec:Hid (ec=(0:Int)):=hid (by rw[<-hec',decide_eq_false (by omega)];rfl)
  have hres:Hid (mkRat (-x) y.natAbs=q):=hid (by rw[<-hq'];exact c0a x y h0);have hI:(y.sign==0)=false:=by rw[Int.sign_eq_neg_one_of_neg h0];rfl
  have hI2:decide (y.sign<0)=true:=by rw[Int.sign_eq_neg_one_of_neg h0];rfl
  have hy0:Hid (0<y.natAbs):=hid (by omega);have hvz5:=mkx ZV.mono hvz hE5;have hXs5:=hXW.ext hE5;clear h0 hec' hq';go_wp2_with fail
  refine(b5J (a0e X b 3) w5 _ _ hXs5 hvz5).mono ?_;rintro e w6 ⟨hE6,rfl⟩;generalize y.sign=sgy at*;have bz0:=bb0.ext0 hE6;have bz1:=bb1.ext0 hE6;have bz2:=bb2.ext0 hE6;have hXs6:=hXs5.ext hE6;have hzn6:=mkx ZV.mono (mkx ZV.mono huz hE5) hE6;clear j00 j01 j10 j11;have k00:=bz0.cell 0 rfl;have k01:=bz0.cell 1 rfl;have k10:=bz1.cell 0 rfl;have k11:=bz1.cell 1 rfl;go_wp2_with fail
  refine(c1I (a0e X b 3) w6 _ _ hXs6 hzn6).mono ?_;rintro e w7 ⟨hE7,u7,rfl,hu7⟩;obtain⟨sz,az,nz,cz,rfl⟩:=hu7.shape;have bn0:=bz0.ext0 hE7;have bn1:=bz1.ext0 hE7;have bn2:=bz2.ext0 hE7;have hXs7:=hXs6.ext hE7;have hEs7:=hE.trans (hE5.trans (hE6.trans hE7));have hzd7:=(mkx ZC.mono (mkx ZC.mono (mkx ZC.mono hv1 hE5) hE6) hE7).mag;have hbz:Hid (lg (-x).natAbs<=549755813888):=hid (by rw[Int.natAbs_neg];exact hlx.out);clear k00 k01 k10 k11 bz0 bz1 bz2;generalize hxz: -x=z at*;go_upto_region 5 with((with_reducible show wpList _ _ _ (⟨_, .store _ _ _,_,_,_,_⟩::_) _ _);refine a0c a0G rfl rfl bn0 rfl rfl (a2R _ _ _ _) ?_;intro ws bz0 r2)
  have bz1:=bn1.ext r2 (a0b (by omega));have bz2:=bn2.ext r2 (a0b (by omega));have hXs:=hXs7.ext r2;have hzn:=ZC.mono _ _ _ _ (a0i (X:=X) (lo:=b) (nb:=3) r2 (by omega) (by omega)) hu7;have hzd:=NC.mono _ _ _ _ (a0i (X:=X) (lo:=b) (nb:=3) r2 (by omega) (by omega)) hzd7;have hEs:Ext w ws:=ExtX.box hEs7 r2 (by omega);have bzn:=hbz;have hz0:Hid (z+0=z):=hid (by omega);have hEd:Ext ws ws.drew:=(ExtX.refl ws).drew;have hXd:HX (a0e X b 3) ws.drew:=hXs;have hxzd:ZC (mk (a0e X b 3) ws.drew) (.agg #[.bool sz, .slice az nz cz]) z:=hzn;have hydd:NC (mk (a0e X b 3) ws.drew) (.slice a2 n2 c2) y.natAbs:=hzd;have hxv:=hxzd.zv bzn.out;have h00:=ZC.zv (ZC.zero (mk (a0e X b 3) ws.drew)) (by decide);have hB:=hid (And.intro bz0 bz1);have hS:Hid (∀W',Ext ws.drew W'->W'.cell? ⟨b,0,none⟩=some (.bool sz)/\W'.cell? ⟨b,1,none⟩=some (.slice az nz cz)/\W'.cell? ⟨b+1,0,none⟩=some (.bool s2)/\W'.cell? ⟨b+1,1,none⟩=some (.slice a2 n2 c2)):=
   hid fun W' h=>⟨(bz0.ext0 (hEd.trans h)).cell 0 rfl,(bz0.ext0 (hEd.trans h)).cell 1 rfl,(bz1.ext0 (hEd.trans h)).cell 0 rfl,(bz1.ext0 (hEd.trans h)).cell 1 rfl⟩
  have k00:=bz0.cell 0 rfl;have k01:=bz0.cell 1 rfl;have k10:=bz1.cell 0 rfl;have k11:=bz1.cell 1 rfl;go_region_held3 (fun w'=>w'.cell? ⟨b,0,none⟩=some (.bool sz)/\w'.cell? ⟨b,1,none⟩=some (.slice az nz cz)/\w'.cell? ⟨b+1,0,none⟩=some (.bool s2)/\w'.cell? ⟨b+1,1,none⟩=some (.slice a2 n2 c2))
   (first|exact hS.out _ t1|exact hS.out _ t2|exact⟨((hB.out.1.ext0 (hEd.trans t2)).ext (bb2.set3 _ _ _).2 (a0b (by omega))).cell 0 rfl,((hB.out.1.ext0 (hEd.trans t2)).ext (bb2.set3 _ _ _).2 (a0b (by omega))).cell 1 rfl,((hB.out.2.ext0 (hEd.trans t2)).ext (bb2.set3 _ _ _).2 (a0b (by omega))).cell 0 rfl,((hB.out.2.ext0 (hEd.trans t2)).ext (bb2.set3 _ _ _).2 (a0b (by omega))).cell 1 rfl⟩|go_keep)
   (first|(go_at_call 171;(with_reducible refine(b9W (a0e X b 3) ws.drew _ _ _ _ hXd hxv h00).mono ?_);rintro ee w8 ⟨t1,u8,rfl,hu8⟩;rw[hz0.out]at hu8;have hX8:=HX.ext hXd t1;have hm8:=mkx NC.mono hydd t1)|(go_at_call 172;(with_reducible refine(a5O (a0e X b 3) w8 _ _ z y.natAbs hX8 hu8 hm8 bzn.out hly.out hy0.out).mono ?_);rintro ee w9 ⟨hE9,u9,rfl,hu9⟩;obtain⟨s9,a9,n9,c9,d9,k9,e9,rfl⟩:=hu9.shape;have t2:=t1.trans hE9;have bb2:=bz2.ext0 (hEd.trans t2);have g0:=bb2.cell 0 rfl;have g1:=bb2.cell 1 rfl;have g2:=bb2.cell 2 rfl;have f0:=bb2.frozen 0;have f1:=bb2.frozen 1;have f2:=bb2.frozen 2))
  rw[hres.out]at hu9;obtain⟨q1,q2⟩:=bb2.set3 (.bool s9) (.slice a9 n9 c9) (.slice d9 k9 e9);have h7:=QC.mono _ _ _ _ a0k (QC.mono _ _ _ _ (a0i q2 (by omega) (by omega)) hu9);have hEf:Ext w _:=ExtX.box (hEs.trans (hEd.trans t2)) q2 (by omega);clear g0 g1 g2 f0 f1 f2 k00 k01 k10 k11 hS hB;go_wp2_with fail
  exact bodyPost_ret (a1z rfl rfl a0w q1 rfl) rfl ⟨hEf,_,by rw[hec.out];rfl,h7⟩
theorem b7l (x y:Rat):((x.num*(y.den:Int):Int):Rat)/((y.num*(x.den:Int):Int):Rat)=x/y:=by
 have hx:(x.num:Rat)/(x.den:Rat)=x:=by rw[<-Rat.mkRat_eq_div];exact Rat.mkRat_self x
 have hy:(y.num:Rat)/(y.den:Rat)=y:=by rw[<-Rat.mkRat_eq_div];exact Rat.mkRat_self y
 rw[Rat.intCast_mul,Rat.intCast_mul,Rat.intCast_natCast,Rat.intCast_natCast];have h1:(x.den:Rat)≠0:=by have:=x.den_nz;exact_mod_cast this
 have h2:(y.den:Rat)≠0:=by have:=y.den_nz;exact_mod_cast this
 by_cases h3:(y.num:Rat)=0
 ·rw[<-hy,h3];simp[Rat.div_def]
 ·conv=>rhs;rw[<-hx,<-hy]
  grind
theorem b5M (y x:Rat):y.num*(x.den:Int)=0↔y=0:=by
 have h1:(x.den:Int)≠0:=by have:=x.den_nz;omega
 rw[Int.mul_eq_zero,Rat.num_eq_zero];exact or_iff_left h1
set_option maxRecDepth 100000 in
set_option maxHeartbeats 1600000 in
theorem c1c (X:Nat->Bool) (w:World) (u v:Value) (x y:Rat) (hX:HX X w) (hu:QV (mk X w) u x) (hv:QV (mk X w) v y):Calls Tryz.prog 230 #[u,v] w (b8q X w (x/y) (e5 (decide (y=0)))):=by
 have hlx:=hid hu.hq;have hly:=hid hv.hq;obtain⟨s1,a1,n1,c1,d1,k1,e1,rfl⟩:=hu.shape;obtain⟨s2,a2,n2,c2,d2,k2,e2,rfl⟩:=hv.shape;obtain⟨W,hW,hE,b0,b1,b2,hz⟩:=a2B w #[.bool s1, .slice a1 n1 c1, .slice d1 k1 e1] #[.bool s2, .slice a2 n2 c2, .slice d2 k2 e2] #[.bool false, .slice none 0 0, .slice none 0 0] 32 32 32;have hXW:HX (a0e X w.heap.size 3) W:=hX.boxes hz;have hu1:=QV.mono _ _ _ _ (a0q (nb:=3) hE) hu;have hv1:=QV.mono _ _ _ _ (a0q (nb:=3) hE) hv;obtain⟨b,hb⟩:∃b,w.heap.size=b:=⟨_,rfl⟩;have hbw:w.heap.size<=b:=by omega
 rw[hb]at b0 b1 b2 hz hXW hu1 hv1;have hEd:Ext W W.drew:=(ExtX.refl W).drew;have hXd:HX (a0e X b 3) W.drew:=hXW;have hud:QV (mk (a0e X b 3) W.drew) (.agg #[.bool s1, .slice a1 n1 c1, .slice d1 k1 e1]) x:=hu1;have hvd:QV (mk (a0e X b 3) W.drew) (.agg #[.bool s2, .slice a2 n2 c2, .slice d2 k2 e2]) y:=hv1;have k00:=b0.cell 0 rfl;have k01:=b0.cell 1 rfl;have k02:=b0.cell 2 rfl;have k10:=b1.cell 0 rfl;have k11:=b1.cell 1 rfl;have k12:=b1.cell 2 rfl;clear hu hv;obtain⟨ec,hec'⟩:∃ec:Int,e5 (decide (y=0))=ec:=⟨_,rfl⟩;rw[hec']
 replace hec':=hid hec'
 go_enter Tryz.func230,Tryz.ntmps230
 go_upto_region 1 with(fail)
 go_cut []from 6 to 9 (fun wx=>∃s3 a3 n3 c3 d3 k3 e3 s4 a4 n4 c4 d4 k4 e4,Bx wx b #[.bool s3, .slice a3 n3 c3, .slice d3 k3 e3] 32/\Bx wx (b+1) #[.bool s4, .slice a4 n4 c4, .slice d4 k4 e4] 32/\Bx wx (b+1+1) #[.bool false, .slice none 0 0, .slice none 0 0] 32/\QC (mk (a0e X b 3) wx) (.agg #[.bool s3, .slice a3 n3 c3, .slice d3 k3 e3]) x/\QC (mk (a0e X b 3) wx) (.agg #[.bool s4, .slice a4 n4 c4, .slice d4 k4 e4]) y/\Ext w wx)
 case first=>
  go_region_with (first|(go_at_call 143;(with_reducible refine(a6d (a0e X b 3) W.drew _ x hXd hud).mono ?_);rintro ee w5 ⟨hE5,u5,rfl,hq5⟩;obtain⟨s5,a5,n5,c5,d5,k5,e5,rfl⟩:=hq5.shape;have bb0:=b0.ext0 (hEd.trans hE5);have bb1:=b1.ext0 (hEd.trans hE5);have e00:=bb0.cell 0 rfl;have e01:=bb0.cell 1 rfl;have e02:=bb0.cell 2 rfl;have e10:=bb1.cell 0 rfl;have e11:=bb1.cell 1 rfl;have e12:=bb1.cell 2 rfl)|(go_at_call 143;(with_reducible refine(a6d (a0e X b 3) w5 _ y (HX.ext hXd hE5) (mkx QV.mono hvd hE5)).mono ?_);rintro ee w6 ⟨hE6,u6,rfl,hq6⟩;obtain⟨s6,a6,n6,c6,d6,k6,e6,rfl⟩:=hq6.shape;have bb2:=bb0.ext0 hE6;have bb3:=bb1.ext0 hE6;have g00:=bb2.cell 0 rfl;have g01:=bb2.cell 1 rfl;have g02:=bb2.cell 2 rfl;have g10:=bb3.cell 0 rfl;have g11:=bb3.cell 1 rfl;have g12:=bb3.cell 2 rfl;have fr0:=bb2.frozen 0;have fr1:=bb2.frozen 1;have fr4:=bb2.frozen 2;have fr2:=bb3.frozen 0;have fr3:=bb3.frozen 1;have fr5:=bb3.frozen 2))
  all_goals
   obtain⟨wf,hwf,q0,q1,q2,q3,q4⟩:=a2n (X:=X) (nb:=3) bb2 bb3 (hE.trans ((hEd.trans hE5).trans hE6)) hbw (by omega) (.bool s5) (.slice a5 n5 c5) (.slice d5 k5 e5) (.bool s6) (.slice a6 n6 c6) (.slice d6 k6 e6);rw[hwf];have hfx:QC (mk (a0e X b 3) wf) (.agg #[.bool s5, .slice a5 n5 c5, .slice d5 k5 e5]) x:=QC.mono _ _ _ _ q4 (mkx QC.mono hq5 hE6);have hfy:QC (mk (a0e X b 3) wf) (.agg #[.bool s6, .slice a6 n6 c6, .slice d6 k6 e6]) y:=QC.mono _ _ _ _ q4 hq6;have q5:=q2 (b+1+1) _ _ (by omega) (by omega) ((b2.ext0 (hEd.trans hE5)).ext0 hE6);clear e00 e01 e02 e10 e11 e12 g00 g01 g02 g10 g11 g12 fr0 fr1 fr2 fr3 fr4 fr5 k00 k01 k02 k10 k11 k12 hwf;go_wp2_with fail
   go_meet
   exact⟨_,_,_,_,_,_,_,_,_,_,_,_,_,_,q0,q1,q5,hfx,hfy,q3⟩
 case rest=>
  clear k00 k01 k02 k10 k11 k12 b0 b1 b2 hu1 hv1 hud hvd hXd hEd hW;obtain⟨s3,a3,n3,c3,d3,k3,e3,s4,a4,n4,c4,d4,k4,e4,b0,b1,b2,hx,hy,hE1⟩:=hcut;have hzz:w.heap.size+3<=wc.heap.size:=by have:=b2.lt;omega
  obtain⟨hxz,hxm,hxdn⟩:=hx.num;obtain⟨hyz,hym,hydn⟩:=hy.num;have hXc:HX (a0e X b 3) wc:=hX.boxes' hE1 (by have:=hzz;omega) hzz;have k00:=b0.cell 0 rfl;have k01:=b0.cell 1 rfl;have k02:=b0.cell 2 rfl;have k10:=b1.cell 0 rfl;have k11:=b1.cell 1 rfl;have k12:=b1.cell 2 rfl;have hEd:Ext wc wc.drew:=(ExtX.refl wc).drew;have hXd:HX (a0e X b 3) wc.drew:=hXc;have hxd:QC (mk (a0e X b 3) wc.drew) (.agg #[.bool s3, .slice a3 n3 c3, .slice d3 k3 e3]) x:=hx;have hyd:QC (mk (a0e X b 3) wc.drew) (.agg #[.bool s4, .slice a4 n4 c4, .slice d4 k4 e4]) y:=hy;have hxzd:ZC (mk (a0e X b 3) wc.drew) (.agg #[.bool s3, .slice a3 n3 c3]) x.num:=hxz;have hyzd:ZC (mk (a0e X b 3) wc.drew) (.agg #[.bool s4, .slice a4 n4 c4]) y.num:=hyz;have bxn:lg x.num.natAbs<=549755813888:=Nat.le_trans (Nat.le_trans (a0F x) hlx.out) (by omega);have byn:lg y.num.natAbs<=549755813888:=Nat.le_trans (Nat.le_trans (a0F y) hly.out) (by omega);have bxd:lg x.den<=549755813888:=Nat.le_trans (Nat.le_trans (a0I x) hlx.out) (by omega);have byd:lg y.den<=549755813888:=Nat.le_trans (Nat.le_trans (a0I y) hly.out) (by omega);have bp1:lg (x.num*(y.den:Int)).natAbs<=274877906944:=by rw[Int.natAbs_mul,Int.natAbs_natCast];have:=a1c x.num.natAbs y.den;have:=a0F x;have:=a0I y;have:=hlx.out;have:=hly.out;omega
  have bp2:lg (y.num*(x.den:Int)).natAbs<=274877906944:=by rw[Int.natAbs_mul,Int.natAbs_natCast];have:=a1c y.num.natAbs x.den;have:=a0F y;have:=a0I x;have:=hlx.out;have:=hly.out;omega
  have bdd:lg (x.den*y.den)<=274877906944:=by have:=a1c x.den y.den;have:=a0I x;have:=a0I y;have:=hlx.out;have:=hly.out;omega
  have bnn:lg (x.num*y.num).natAbs<=274877906944:=by rw[Int.natAbs_mul];have:=a1c x.num.natAbs y.num.natAbs;have:=a0F x;have:=a0F y;have:=hlx.out;have:=hly.out;omega
  have bd0:0<x.den*y.den:=Nat.mul_pos x.den_pos y.den_pos;have hB:=hid (And.intro b0 b1);have hS:Hid (∀W',Ext wc.drew W'->W'.cell? ⟨b,0,none⟩=some (.bool s3)/\W'.cell? ⟨b,1,none⟩=some (.slice a3 n3 c3)/\W'.cell? ⟨b,2,none⟩=some (.slice d3 k3 e3)/\W'.cell? ⟨b+1,0,none⟩=some (.bool s4)/\W'.cell? ⟨b+1,1,none⟩=some (.slice a4 n4 c4)/\W'.cell? ⟨b+1,2,none⟩=some (.slice d4 k4 e4)):=
   hid fun W' h=>⟨(b0.ext0 (hEd.trans h)).cell 0 rfl,(b0.ext0 (hEd.trans h)).cell 1 rfl,(b0.ext0 (hEd.trans h)).cell 2 rfl,(b1.ext0 (hEd.trans h)).cell 0 rfl,(b1.ext0 (hEd.trans h)).cell 1 rfl,(b1.ext0 (hEd.trans h)).cell 2 rfl⟩
  have hfin:Hid (((x.num*(y.den:Int):Int):Rat)/((y.num*(x.den:Int):Int):Rat)=x/y):=hid (b7l x y);have hfe:Hid (e5 (decide (y.num*(x.den:Int)=0))=ec):=hid (by rw[<-hec'.out];simp only[b5M]);go_wp2_with fail
  go_region_held3 (fun w'=>w'.cell? ⟨b,0,none⟩=some (.bool s3)/\w'.cell? ⟨b,1,none⟩=some (.slice a3 n3 c3)/\w'.cell? ⟨b,2,none⟩=some (.slice d3 k3 e3)/\w'.cell? ⟨b+1,0,none⟩=some (.bool s4)/\w'.cell? ⟨b+1,1,none⟩=some (.slice a4 n4 c4)/\w'.cell? ⟨b+1,2,none⟩=some (.slice d4 k4 e4))
   (first|exact hS.out _ t1|exact hS.out _ t2|exact hS.out _ t3|exact hS.out _ t4|exact hS.out _ t5|exact⟨((hB.out.1.ext0 (hEd.trans t5)).ext (bb2.set3 _ _ _).2 (a0b (by omega))).cell 0 rfl,((hB.out.1.ext0 (hEd.trans t5)).ext (bb2.set3 _ _ _).2 (a0b (by omega))).cell 1 rfl,((hB.out.1.ext0 (hEd.trans t5)).ext (bb2.set3 _ _ _).2 (a0b (by omega))).cell 2 rfl,((hB.out.2.ext0 (hEd.trans t5)).ext (bb2.set3 _ _ _).2 (a0b (by omega))).cell 0 rfl,((hB.out.2.ext0 (hEd.trans t5)).ext (bb2.set3 _ _ _).2 (a0b (by omega))).cell 1 rfl,((hB.out.2.ext0 (hEd.trans t5)).ext (bb2.set3 _ _ _).2 (a0b (by omega))).cell 2 rfl⟩|go_keep)
   (first|(go_at_call 146;(with_reducible refine(b0V (a0e X b 3) wc.drew _ y hXd hyd).mono ?_);rintro ee w5 ⟨t1,u5,rfl,hu5⟩;have hX5:=HX.ext hXd t1;have hx5:=mkx ZC.mono hxzd t1)|(go_at_call 145;(with_reducible refine(a7C (a0e X b 3) w5 _ _ x.num y.den hX5 hx5 hu5 bxn byd).mono ?_);rintro ee w6 ⟨hE6,u6,rfl,hu6⟩;have t2:=t1.trans hE6;have hX6:=HX.ext hXd t2;have hx6:=mkx QC.mono hxd t2)|(go_at_call 146;(with_reducible refine(b0V (a0e X b 3) w6 _ x hX6 hx6).mono ?_);rintro ee w7 ⟨hE7,u7,rfl,hu7⟩;have t3:=t2.trans hE7;have hX7:=HX.ext hXd t3;have hy7:=mkx ZC.mono hyzd t3)|(go_at_call 145;(with_reducible refine(a7C (a0e X b 3) w7 _ _ y.num x.den hX7 hy7 hu7 byn bxd).mono ?_);rintro ee w8 ⟨hE8,u8,rfl,hu8⟩;have t4:=t3.trans hE8;have hX8:=HX.ext hXd t4;have hz6:=mkx ZC.mono hu6 (hE7.trans hE8))|(go_at_call 270;(with_reducible refine(c1b (a0e X b 3) w8 _ _ _ _ hX8 hz6 hu8 (Nat.le_trans bp1 (by decide)) (Nat.le_trans bp2 (by decide))).mono ?_);rintro ee w13 ⟨hE13,u13,rfl,hu13⟩;obtain⟨s13,a13,n13,c13,d13,k13,e13,rfl⟩:=hu13.shape;have t5:=t4.trans hE13;have bb2:=b2.ext0 (hEd.trans t5);have g0:=bb2.cell 0 rfl;have g1:=bb2.cell 1 rfl;have g2:=bb2.cell 2 rfl;have f0:=bb2.frozen 0;have f1:=bb2.frozen 1;have f2:=bb2.frozen 2))
  obtain⟨r1,r2⟩:=bb2.set3 (.bool s13) (.slice a13 n13 c13) (.slice d13 k13 e13);have h7:=QC.mono _ _ _ _ a0k (QC.mono _ _ _ _ (a0i r2 (by omega) (by omega)) hu13);rw[hfin.out]at h7;have hEf:Ext w _:=ExtX.box (hE1.trans (hEd.trans t5)) r2 (by omega);clear g0 g1 g2 f0 f1 f2 k00 k01 k02 k10 k11 k12 hS hB;go_wp2_with fail
  exact bodyPost_ret (a1z rfl rfl a0w r1 rfl) rfl ⟨hEf,_,by rw[<-hfe.out];rfl,h7⟩
theorem b5N (X:Nat->Bool) (w:World) (u:Value) (n:Nat) (hu:NC (mk X w) u n) (hn:lg n<=1099511627776):Calls Tryz.prog 177 #[u] w fun e w'=>w=w'/\e= .returned (.bool (decide (n=1))):=by
 obtain⟨ao,ca,a,rfl,hca,hcan,hsa⟩:=hu;have hal:=hcan.len;by_cases h1:a.length=1
 ·have hk:0<a.length:=by omega
  have hcell:=hsa.nat 0 hk;have hh:=hsa.hd;obtain⟨x,rfl⟩:∃x,a= [x]:=by
   match a,h1 with
   | [x],_=>exact⟨x,rfl⟩
  have hnx:n=x:=by have:=hcan.2.2;simp[nv]at this;omega
  obtain rfl:=hnx;simp only[List.length_singleton,List.getElem_cons_zero]at hcell hca hh hk |-;by_cases h2:n=1
  ·have hI:((n:Int)==1)=true:=by rw[h2];rfl
   have hf:Hid (decide (n=1)=true):=hid (decide_eq_true h2);clear h2 h1 hcan hsa hal;go_enter Tryz.func177,Tryz.ntmps177
   go_wp2_with (with_reducible refine a0n a0Q (by omega) (by assumption) ?_)
   go_ret
   exact⟨rfl,a0p hf.out.symm⟩
  ·have hI:((n:Int)==1)=false:=a1S (by omega)
   have hf:Hid (decide (n=1)=false):=hid (decide_eq_false h2);clear h2 h1 hcan hsa hal;go_enter Tryz.func177,Tryz.ntmps177
   go_wp2_with (with_reducible refine a0n a0Q (by omega) (by assumption) ?_)
   go_ret
   exact⟨rfl,a0p hf.out.symm⟩
 ·have hI:((a.length:Int)==1)=false:=a1S (by omega)
  have hf:Hid (decide (n=1)=false):=hid (decide_eq_false (by rintro rfl;rw[a3z]at hal;exact h1 hal));have hal2:a.length<=1099511627776:=by omega
  clear h1 hal hn;go_enter Tryz.func177,Tryz.ntmps177
  go_wp2_with (with_reducible refine a0n a0Q (by omega) (by assumption) ?_)
  go_ret
  exact⟨rfl,a0p hf.out.symm⟩
set_option maxRecDepth 100000 in
theorem b3C (X:Nat->Bool) (w:World) (s:Bool) (ao bo:Option Addr) (c e:Nat) (m d:List Nat) (hX:HX X w) (hm:Sl (a0a .u32) 1 (mk X w) ao m) (hd:Sl (a0a .u32) 1 (mk X w) bo d) (hml:m.length<=68719476736) (hdl:d.length<=68719476736) (hmd:Dig m) (hdd:Dig d) (hmc:m.length<=c) (hdc:d.length<=e):
  Calls Tryz.prog 182 #[.agg #[.bool s, .slice ao m.length c, .slice bo d.length e]] w (a7A w (a1t s m d)):=by
 obtain⟨W,hW,hE,b0,hz⟩:=a1I w #[.bool s, .slice ao m.length c, .slice bo d.length e] 32;have hXW:HX X W:=hX.ext hE;have hmW:=hm.mono (a0a.mono _) (a0m hE);have hdW:=hd.mono (a0a.mono _) (a0m hE);obtain⟨b,hb⟩:∃b,w.heap.size=b:=⟨_,rfl⟩;rw[hb]at b0 hz;have k00:=b0.cell 0 rfl;have k01:=b0.cell 1 rfl;have k02:=b0.cell 2 rfl;have hdef:Hid (a1t s m d=(a1o s m&&a1x d&&(decide (d.length=0)||(decide (0<m.length)&& !(nv d==1)&&(Nat.gcd (nv m) (nv d)==1))))):=hid rfl;clear hX hm hd hz;cases hv:a1o s m
 ·have hf:Hid (a1t s m d=false):=hid (by rw[hdef.out,hv];rfl)
  have hv':=hid hv;clear hv hdef;go_enter Tryz.func182,Tryz.ntmps182
  go_wp2_with fail
  refine(a6N X W s ao c m hmW (by omega)).mono ?_;rintro e w1 ⟨hE1,rfl⟩;rw[hv'.out];clear k00 k01 k02;go_wp2_with fail
  go_ret
  exact⟨hE.trans hE1,a0p hf.out.symm⟩
 ·cases hl:a1x d
  ·have hf:Hid (a1t s m d=false):=hid (by rw[hdef.out,hv,hl];rfl)
   have hv':=hid hv;have hl':=hid hl;clear hv hdef hl;go_enter Tryz.func182,Tryz.ntmps182
   go_wp2_with fail
   refine(a6N X W s ao c m hmW (by omega)).mono ?_;rintro e w1 ⟨hE1,rfl⟩;rw[hv'.out];have j02:=(b0.ext0 hE1).cell 2 rfl;have hd1:=hdW.mono (a0a.mono _) (a0m hE1);clear k00 k01 k02;go_wp2_with fail
   refine(a1Y X _ _ _ _ hd1 (by omega)).mono ?_;rintro e w2 ⟨rfl,rfl⟩;rw[hl'.out];clear j02;go_wp2_with fail
   go_ret
   exact⟨hE.trans hE1,a0p hf.out.symm⟩
  ·have hf:Hid (a1t s m d=(decide (d.length=0)||(decide (0<m.length)&& !(nv d==1)&&(Nat.gcd (nv m) (nv d)==1)))):=hid (by rw[hdef.out,hv,hl];rfl)
   have hv':=hid hv;have hl':=hid hl;have hmv:a1x m=true:=by unfold a1o at hv;simp at hv;exact hv.1
   have hcm:=hid (show a0K m (nv m)from⟨hmd,hmv,rfl⟩);have hcd:=hid (show a0K d (nv d)from⟨hdd,hl,rfl⟩);have hln:=hid hcd.out.len;have hln':=hid hcm.out.len;clear hv hdef hl hmv;go_enter Tryz.func182,Tryz.ntmps182
   go_wp2_with fail
   refine(a6N X W s ao c m hmW (by omega)).mono ?_;rintro e' w1 ⟨hE1,rfl⟩;rw[hv'.out];have b1:=b0.ext0 hE1;have j02:=b1.cell 2 rfl;have j01:=b1.cell 1 rfl;have hd1:=hdW.mono (a0a.mono _) (a0m hE1);have hm1:=hmW.mono (a0a.mono _) (a0m hE1);have hX1:=hXW.ext hE1;have hmn:NC (mk X w1) (.slice ao m.length c) (nv m):=⟨ao,c,m,rfl,hmc,hcm.out,hm1⟩;have hdn:NC (mk X w1) (.slice bo d.length e) (nv d):=⟨bo,e,d,rfl,hdc,hcd.out,hd1⟩;clear k00 k01 k02;go_wp2_with fail
   refine(a1Y X _ _ _ _ hd1 (by omega)).mono ?_;rintro e' w2 ⟨rfl,rfl⟩;rw[hl'.out];go_wp2_with fail
   refine(b5N X _ _ _ hdn (by rw[<-hln.out];omega)).mono ?_;rintro e' w3 ⟨rfl,rfl⟩;by_cases h1:nv d=1
   ·have hf2:Hid (a1t s m d=false):=hid (by
     have h5:d.length≠0:=by rw[hln.out,h1,a3z];decide
     rw[hf.out,h1,decide_eq_false h5];simp)
    rw[decide_eq_true h1];clear h1 hf;go_wp2_with fail
    go_ret
    exact⟨hE.trans hE1,a0p hf2.out.symm⟩
   ·rw[decide_eq_false h1]
    by_cases h0:d.length=0
    ·have hf2:Hid (a1t s m d=true):=hid (by rw[hf.out,decide_eq_true h0];rfl)
     have hdI:((d.length:Int)==0)=true:=by rw[h0];rfl
     clear h0 h1 hf;go_wp2_with fail
     go_ret
     exact⟨hE.trans hE1,a0p hf2.out.symm⟩
    ·have hdI:((d.length:Int)==0)=false:=a1S (by omega)
     by_cases hm0:m.length=0
     ·have hf2:Hid (a1t s m d=false):=hid (by rw[hf.out,decide_eq_false h0,decide_eq_false (by omega)];rfl)
      have hmI:¬((0:Int)<(m.length:Int)):=by omega
      clear h0 h1 hf hm0;go_wp2_with fail
      go_ret
      exact⟨hE.trans hE1,a0p hf2.out.symm⟩
     ·have hmI:(0:Int)<(m.length:Int):=by omega
      have hf2:Hid (a1t s m d=decide (Nat.gcd (nv m) (nv d)=1)):=hid (by
       rw[hf.out,decide_eq_false h0,decide_eq_true (by omega),Bool.eq_iff_iff];simp[h1])
      have hgl:Hid (lg (Nat.gcd (nv m) (nv d))<=1099511627776):=hid (by
       have h2:Nat.gcd (nv m) (nv d)<=nv d:=Nat.gcd_le_right _ (by
        rcases Nat.eq_zero_or_pos (nv d)with h3|h3
        ·exfalso;apply h0;rw[hln.out,h3];rfl
        ·exact h3)
       refine Nat.le_trans (a1f h2) ?_;rw[<-hln.out];omega)
      clear h0 h1 hf hm0;go_wp2_with fail
      refine(b9V X _ _ _ _ _ hX1 (hmn.nv (by rw[<-hln'.out];omega)) (hdn.nv (by rw[<-hln.out];omega)) (by rw[<-hln'.out];omega) (by rw[<-hln.out];omega)).mono ?_;rintro e7 w7 ⟨hE7,u7,rfl,hu7⟩;clear j01 j02;go_wp2_with fail
      refine(b5N X _ _ _ hu7 hgl.out).mono ?_;rintro e' w3 ⟨rfl,rfl⟩;rw[<-hf2.out];go_wp2_with fail
      go_ret
      exact⟨hE.trans (hE1.trans hE7),rfl⟩
end Go.Proofs.YtoibhmjjhgaimaaGreat
