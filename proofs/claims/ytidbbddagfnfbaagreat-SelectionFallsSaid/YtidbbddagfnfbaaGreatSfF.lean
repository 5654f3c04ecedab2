/- reference 03: Add, Mul, Quo. Conditions: at most 2^36 digits. reference 06: Times, Plus. Conditions: at most 2^20 numbers of at most 2^36 digits. made: Mod, At, Number. Conditions: none but Go's own. reference 03: Sub, Compare, Fraction, Same. Conditions: at most 2^36 digits. made: Number, Matrix. Conditions: few rows and columns. reference 06: Take; made: Matrix, Vector, Sum. Conditions: at most 2^20 rows and columns. Sums, row operations, and the reduced form of a matrix, which is unique. Conditions: none. Row echelon forms and reduced forms, column by column. Conditions: none. Elimination over lists of rows: what the two programs compute is the reduced form. Conditions: none. How large the numbers of an elimination grow. Conditions: none. -/
import Derived.Test.YtidbbddagfnfbaaGreatSfE
namespace Go.Proofs.YtidbbddagfnfbaaGreat
open Go.RowKit Go.Rep Go.Lim
set_option maxRecDepth 100000 in
set_option maxHeartbeats 1600000 in
theorem b3V (X:Nat->Bool) (w:World) (u v:Value) (x y:Rat) (hX:HX X w) (hu:QV (mk X w) u x) (hv:QV (mk X w) v y):Calls Tryz.prog 51 #[u,v] w (a1Z X w QC (x+y)):=by
 have hlx:=hid hu.hq;have hly:=hid hv.hq;obtain⟨s1,a1,n1,c1,d1,k1,e1,rfl⟩:=hu.shape;obtain⟨s2,a2,n2,c2,d2,k2,e2,rfl⟩:=hv.shape;obtain⟨W,hW,hE,b0,b1,b2,hz⟩:=a2x w #[.bool s1, .slice a1 n1 c1, .slice d1 k1 e1] #[.bool s2, .slice a2 n2 c2, .slice d2 k2 e2] #[.bool false, .slice none 0 0, .slice none 0 0] 45 45 45;have hXW:HX (a0f X w.heap.size 3) W:=hX.boxes hz;have hu1:=QV.mono _ _ _ _ (a0o (nb:=3) hE) hu;have hv1:=QV.mono _ _ _ _ (a0o (nb:=3) hE) hv;obtain⟨b,hb⟩:∃b,w.heap.size=b:=⟨_,rfl⟩;have hbw:w.heap.size<=b:=by omega
 rw[hb]at b0 b1 b2 hz hXW hu1 hv1;have hEd:Ext W W.drew:=(ExtX.refl W).drew;have hXd:HX (a0f X b 3) W.drew:=hXW;have hud:QV (mk (a0f X b 3) W.drew) (.agg #[.bool s1, .slice a1 n1 c1, .slice d1 k1 e1]) x:=hu1;have hvd:QV (mk (a0f X b 3) W.drew) (.agg #[.bool s2, .slice a2 n2 c2, .slice d2 k2 e2]) y:=hv1;have k00:=b0.cell 0 rfl;have k01:=b0.cell 1 rfl;have k02:=b0.cell 2 rfl;have k10:=b1.cell 0 rfl;have k11:=b1.cell 1 rfl;have k12:=b1.cell 2 rfl;clear hu hv;go_enter Tryz.func51,Tryz.ntmps51
 go_upto_region 1 with(fail)
 go_cut []from 5 to 8 (fun wx=>∃s3 a3 n3 c3 d3 k3 e3 s4 a4 n4 c4 d4 k4 e4,Bx wx b #[.bool s3, .slice a3 n3 c3, .slice d3 k3 e3] 45/\Bx wx (b+1) #[.bool s4, .slice a4 n4 c4, .slice d4 k4 e4] 45/\Bx wx (b+1+1) #[.bool false, .slice none 0 0, .slice none 0 0] 45/\QC (mk (a0f X b 3) wx) (.agg #[.bool s3, .slice a3 n3 c3, .slice d3 k3 e3]) x/\QC (mk (a0f X b 3) wx) (.agg #[.bool s4, .slice a4 n4 c4, .slice d4 k4 e4]) y/\Ext w wx)
 case first=>
  go_region_with (first|(go_at_call 107;(with_reducible refine(a3t (a0f X b 3) W.drew _ x hXd hud).mono ?_);rintro ee w5 ⟨hE5,u5,rfl,hq5⟩;obtain⟨s5,a5,n5,c5,d5,k5,e5,rfl⟩:=hq5.shape;have bb0:=b0.ext0 (hEd.trans hE5);have bb1:=b1.ext0 (hEd.trans hE5);have e00:=bb0.cell 0 rfl;have e01:=bb0.cell 1 rfl;have e02:=bb0.cell 2 rfl;have e10:=bb1.cell 0 rfl;have e11:=bb1.cell 1 rfl;have e12:=bb1.cell 2 rfl)|(go_at_call 107;(with_reducible refine(a3t (a0f X b 3) w5 _ y (HX.ext hXd hE5) (mkx QV.mono hvd hE5)).mono ?_);rintro ee w6 ⟨hE6,u6,rfl,hq6⟩;obtain⟨s6,a6,n6,c6,d6,k6,e6,rfl⟩:=hq6.shape;have bb2:=bb0.ext0 hE6;have bb3:=bb1.ext0 hE6;have g00:=bb2.cell 0 rfl;have g01:=bb2.cell 1 rfl;have g02:=bb2.cell 2 rfl;have g10:=bb3.cell 0 rfl;have g11:=bb3.cell 1 rfl;have g12:=bb3.cell 2 rfl;have fr0:=bb2.frozen 0;have fr1:=bb2.frozen 1;have fr4:=bb2.frozen 2;have fr2:=bb3.frozen 0;have fr3:=bb3.frozen 1;have fr5:=bb3.frozen 2))
  all_goals
   obtain⟨wf,hwf,q0,q1,q2,q3,q4⟩:=a1V (X:=X) (nb:=3) bb2 bb3 (hE.trans ((hEd.trans hE5).trans hE6)) hbw (by omega) (.bool s5) (.slice a5 n5 c5) (.slice d5 k5 e5) (.bool s6) (.slice a6 n6 c6) (.slice d6 k6 e6);rw[hwf];have hfx:QC (mk (a0f X b 3) wf) (.agg #[.bool s5, .slice a5 n5 c5, .slice d5 k5 e5]) x:=QC.mono _ _ _ _ q4 (mkx QC.mono hq5 hE6);have hfy:QC (mk (a0f X b 3) wf) (.agg #[.bool s6, .slice a6 n6 c6, .slice d6 k6 e6]) y:=QC.mono _ _ _ _ q4 hq6;have q5:=q2 (b+1+1) _ _ (by omega) (by omega) ((b2.ext0 (hEd.trans hE5)).ext0 hE6);clear e00 e01 e02 e10 e11 e12 g00 g01 g02 g10 g11 g12 fr0 fr1 fr2 fr3 fr4 fr5 k00 k01 k02 k10 k11 k12 hwf;go_wp2_with fail
   go_meet
   exact⟨_,_,_,_,_,_,_,_,_,_,_,_,_,_,q0,q1,q5,hfx,hfy,q3⟩
 case rest=>
  clear k00 k01 k02 k10 k11 k12 b0 b1 b2 hu1 hv1 hud hvd hXd hEd hW;obtain⟨s3,a3,n3,c3,d3,k3,e3,s4,a4,n4,c4,d4,k4,e4,b0,b1,b2,hx,hy,hE1⟩:=hcut;have hzz:w.heap.size+3<=wc.heap.size:=by have:=b2.lt;omega
  obtain⟨hxz,hxm,hxdn⟩:=hx.num;obtain⟨hyz,hym,hydn⟩:=hy.num;have hXc:HX (a0f X b 3) wc:=hX.boxes' hE1 (by have:=hzz;omega) hzz;have k00:=b0.cell 0 rfl;have k01:=b0.cell 1 rfl;have k02:=b0.cell 2 rfl;have k10:=b1.cell 0 rfl;have k11:=b1.cell 1 rfl;have k12:=b1.cell 2 rfl;have hEd:Ext wc wc.drew:=(ExtX.refl wc).drew;have hXd:HX (a0f X b 3) wc.drew:=hXc;have hxd:QC (mk (a0f X b 3) wc.drew) (.agg #[.bool s3, .slice a3 n3 c3, .slice d3 k3 e3]) x:=hx;have hyd:QC (mk (a0f X b 3) wc.drew) (.agg #[.bool s4, .slice a4 n4 c4, .slice d4 k4 e4]) y:=hy;have hxzd:ZC (mk (a0f X b 3) wc.drew) (.agg #[.bool s3, .slice a3 n3 c3]) x.num:=hxz;have hyzd:ZC (mk (a0f X b 3) wc.drew) (.agg #[.bool s4, .slice a4 n4 c4]) y.num:=hyz;have bxn:lg x.num.natAbs<=549755813888:=Nat.le_trans (Nat.le_trans (a0A x) hlx.out) (by omega);have byn:lg y.num.natAbs<=549755813888:=Nat.le_trans (Nat.le_trans (a0A y) hly.out) (by omega);have bxd:lg x.den<=549755813888:=Nat.le_trans (Nat.le_trans (a0E x) hlx.out) (by omega);have byd:lg y.den<=549755813888:=Nat.le_trans (Nat.le_trans (a0E y) hly.out) (by omega);have bp1:lg (x.num*(y.den:Int)).natAbs<=274877906944:=by rw[Int.natAbs_mul,Int.natAbs_natCast];have:=a0X x.num.natAbs y.den;have:=a0A x;have:=a0E y;have:=hlx.out;have:=hly.out;omega
  have bp2:lg (y.num*(x.den:Int)).natAbs<=274877906944:=by rw[Int.natAbs_mul,Int.natAbs_natCast];have:=a0X y.num.natAbs x.den;have:=a0A y;have:=a0E x;have:=hlx.out;have:=hly.out;omega
  have bdd:lg (x.den*y.den)<=274877906944:=by have:=a0X x.den y.den;have:=a0E x;have:=a0E y;have:=hlx.out;have:=hly.out;omega
  have bnn:lg (x.num*y.num).natAbs<=274877906944:=by rw[Int.natAbs_mul];have:=a0X x.num.natAbs y.num.natAbs;have:=a0A x;have:=a0A y;have:=hlx.out;have:=hly.out;omega
  have bd0:0<x.den*y.den:=Nat.mul_pos x.den_pos y.den_pos;have hB:=hid (And.intro b0 b1);have hS:Hid (∀W',Ext wc.drew W'->W'.cell? ⟨b,0,none⟩=some (.bool s3)/\W'.cell? ⟨b,1,none⟩=some (.slice a3 n3 c3)/\W'.cell? ⟨b,2,none⟩=some (.slice d3 k3 e3)/\W'.cell? ⟨b+1,0,none⟩=some (.bool s4)/\W'.cell? ⟨b+1,1,none⟩=some (.slice a4 n4 c4)/\W'.cell? ⟨b+1,2,none⟩=some (.slice d4 k4 e4)):=
   hid fun W' h=>⟨(b0.ext0 (hEd.trans h)).cell 0 rfl,(b0.ext0 (hEd.trans h)).cell 1 rfl,(b0.ext0 (hEd.trans h)).cell 2 rfl,(b1.ext0 (hEd.trans h)).cell 0 rfl,(b1.ext0 (hEd.trans h)).cell 1 rfl,(b1.ext0 (hEd.trans h)).cell 2 rfl⟩
  have bqx:hq x<=549755813888:=Nat.le_trans hlx.out (by decide);have bqy:hq y<=549755813888:=Nat.le_trans hly.out (by decide);have cxn:lg x.num.natAbs<=274877906944:=Nat.le_trans (Nat.le_trans (a0A x) hlx.out) (by omega);have cyn:lg y.num.natAbs<=274877906944:=Nat.le_trans (Nat.le_trans (a0A y) hly.out) (by omega);have cxd:lg (x.den:Int).natAbs<=274877906944:=Nat.le_trans (Nat.le_trans (a0E x) hlx.out) (by omega);have cyd:lg (y.den:Int).natAbs<=274877906944:=Nat.le_trans (Nat.le_trans (a0E y) hly.out) (by omega);have cdd:lg ((x.den:Int)*(y.den:Int)).natAbs<=274877906944:=by rw[<-Int.natCast_mul,Int.natAbs_natCast];exact bdd
  have cd0:(x.den:Int)*(y.den:Int)≠0:=Int.mul_ne_zero (by have:=x.den_nz;omega) (by have:=y.den_nz;omega);have csum:lg (x.num*(y.den:Int)+y.num*(x.den:Int)).natAbs<=274877906944:=by
   have h1:=a1h (Int.natAbs_add_le (x.num*(y.den:Int)) (y.num*(x.den:Int)));have h2:=a9H (x.num*(y.den:Int)).natAbs (y.num*(x.den:Int)).natAbs;have h3:lg (x.num*(y.den:Int)).natAbs<=137438953472:=by rw[Int.natAbs_mul,Int.natAbs_natCast];have:=a0X x.num.natAbs y.den;have:=a0A x;have:=a0E y;have:=hlx.out;have:=hly.out;omega
   have h4:lg (y.num*(x.den:Int)).natAbs<=137438953472:=by rw[Int.natAbs_mul,Int.natAbs_natCast];have:=a0X y.num.natAbs x.den;have:=a0A y;have:=a0E x;have:=hlx.out;have:=hly.out;omega
   omega
  have hfin:Hid (((x.num*(y.den:Int)+y.num*(x.den:Int):Int):Rat)/(((x.den:Int)*(y.den:Int):Int):Rat)=x+y):=hid (by
   rw[<-Int.natCast_mul,Rat.intCast_natCast,<-Rat.mkRat_eq_div];exact(Rat.add_def' x y).symm)
  go_wp2_with fail
  go_region_held3 (fun w'=>w'.cell? ⟨b,0,none⟩=some (.bool s3)/\w'.cell? ⟨b,1,none⟩=some (.slice a3 n3 c3)/\w'.cell? ⟨b,2,none⟩=some (.slice d3 k3 e3)/\w'.cell? ⟨b+1,0,none⟩=some (.bool s4)/\w'.cell? ⟨b+1,1,none⟩=some (.slice a4 n4 c4)/\w'.cell? ⟨b+1,2,none⟩=some (.slice d4 k4 e4))
   (first|exact hS.out _ t1|exact hS.out _ t2|exact hS.out _ t3|exact hS.out _ t4|exact hS.out _ t5|exact hS.out _ t6|exact hS.out _ t7|exact hS.out _ t8|exact hS.out _ t9|exact⟨((hB.out.1.ext0 (hEd.trans t9)).ext (bb2.set3 _ _ _).2 (a0b (by omega))).cell 0 rfl,((hB.out.1.ext0 (hEd.trans t9)).ext (bb2.set3 _ _ _).2 (a0b (by omega))).cell 1 rfl,((hB.out.1.ext0 (hEd.trans t9)).ext (bb2.set3 _ _ _).2 (a0b (by omega))).cell 2 rfl,((hB.out.2.ext0 (hEd.trans t9)).ext (bb2.set3 _ _ _).2 (a0b (by omega))).cell 0 rfl,((hB.out.2.ext0 (hEd.trans t9)).ext (bb2.set3 _ _ _).2 (a0b (by omega))).cell 1 rfl,((hB.out.2.ext0 (hEd.trans t9)).ext (bb2.set3 _ _ _).2 (a0b (by omega))).cell 2 rfl⟩|go_keep)
   (first|(go_at_call 137;(with_reducible refine(a7X (a0f X b 3) wc.drew _ y hXd hyd bqy).mono ?_);rintro ee w5 ⟨t1,u5,rfl,hu5⟩;have hX5:=HX.ext hXd t1;have hx5:=mkx ZC.mono hxzd t1)|(go_at_call 136;(with_reducible refine(a8V (a0f X b 3) w5 _ _ x.num (y.den:Int) hX5 (hx5.zv (Nat.le_trans cxn (by decide))) (hu5.zv (Nat.le_trans cyd (by decide))) cxn cyd).mono ?_);rintro ee w6 ⟨hE6,u6,rfl,hu6⟩;have t2:=t1.trans hE6;have hX6:=HX.ext hXd t2;have hx6:=mkx QC.mono hxd t2)|(go_at_call 137;(with_reducible refine(a7X (a0f X b 3) w6 _ x hX6 hx6 bqx).mono ?_);rintro ee w7 ⟨hE7,u7,rfl,hu7⟩;have t3:=t2.trans hE7;have hX7:=HX.ext hXd t3;have hy7:=mkx ZC.mono hyzd t3)|(go_at_call 136;(with_reducible refine(a8V (a0f X b 3) w7 _ _ y.num (x.den:Int) hX7 (hy7.zv (Nat.le_trans cyn (by decide))) (hu7.zv (Nat.le_trans cxd (by decide))) cyn cxd).mono ?_);rintro ee w8 ⟨hE8,u8,rfl,hu8⟩;have t4:=t3.trans hE8;have hX8:=HX.ext hXd t4;have hz6:=mkx ZC.mono hu6 (hE7.trans hE8))|(go_at_call 135;(with_reducible refine(b9V (a0f X b 3) w8 _ _ _ _ hX8 (hz6.zv (Nat.le_trans bp1 (by decide))) (hu8.zv (Nat.le_trans bp2 (by decide)))).mono ?_);rintro ee w9 ⟨hE9,u9,rfl,hu9⟩;have t5:=t4.trans hE9;have hX9:=HX.ext hXd t5;have hx9:=mkx QC.mono hxd t5)|(go_at_call 137;(with_reducible refine(a7X (a0f X b 3) w9 _ x hX9 hx9 bqx).mono ?_);rintro ee w10 ⟨hE10,u10,rfl,hu10⟩;have t6:=t5.trans hE10;have hX10:=HX.ext hXd t6;have hy10:=mkx QC.mono hyd t6)|(go_at_call 137;(with_reducible refine(a7X (a0f X b 3) w10 _ y hX10 hy10 bqy).mono ?_);rintro ee w11 ⟨hE11,u11,rfl,hu11⟩;have t7:=t6.trans hE11;have hX11:=HX.ext hXd t7;have hm10:=mkx ZC.mono hu10 hE11)|(go_at_call 136;(with_reducible refine(a8V (a0f X b 3) w11 _ _ (x.den:Int) (y.den:Int) hX11 (hm10.zv (Nat.le_trans cxd (by decide))) (hu11.zv (Nat.le_trans cyd (by decide))) cxd cyd).mono ?_);rintro ee w12 ⟨hE12,u12,rfl,hu12⟩;have t8:=t7.trans hE12;have hX12:=HX.ext hXd t8;have hz9:=mkx ZC.mono hu9 (hE10.trans (hE11.trans hE12)))|(go_at_call 102;(with_reducible refine(a9Q (a0f X b 3) w12 _ _ _ _ hX12 hz9 hu12 csum cdd cd0).mono ?_);rintro ee w13 ⟨hE13,u13,rfl,hu13⟩;have t9:=t8.trans hE13;obtain⟨s13,a13,n13,c13,d13,k13,e13,rfl⟩:=hu13.shape;have bb2:=b2.ext0 (hEd.trans t9);have g0:=bb2.cell 0 rfl;have g1:=bb2.cell 1 rfl;have g2:=bb2.cell 2 rfl;have f0:=bb2.frozen 0;have f1:=bb2.frozen 1;have f2:=bb2.frozen 2))
  rw[hfin.out]at hu13;obtain⟨r1,r2⟩:=bb2.set3 (.bool s13) (.slice a13 n13 c13) (.slice d13 k13 e13);have h7:=QC.mono _ _ _ _ a0l (QC.mono _ _ _ _ (a0i r2 (by omega) (by omega)) hu13);have hEf:Ext w _:=ExtX.box (hE1.trans (hEd.trans t9)) r2 (by omega);clear g0 g1 g2 f0 f1 f2 k00 k01 k02 k10 k11 k12 hS hB;go_wp2_with fail
  exact bodyPost_ret (a0e rfl rfl a0u r1 rfl) rfl ⟨hEf,_,rfl,h7⟩
set_option maxRecDepth 100000 in
set_option maxHeartbeats 1600000 in
theorem b1E (X:Nat->Bool) (w:World) (u v:Value) (x y:Rat) (hX:HX X w) (hu:QV (mk X w) u x) (hv:QV (mk X w) v y):Calls Tryz.prog 52 #[u,v] w (a1Z X w QC (x*y)):=by
 have hlx:=hid hu.hq;have hly:=hid hv.hq;obtain⟨s1,a1,n1,c1,d1,k1,e1,rfl⟩:=hu.shape;obtain⟨s2,a2,n2,c2,d2,k2,e2,rfl⟩:=hv.shape;obtain⟨W,hW,hE,b0,b1,b2,hz⟩:=a2x w #[.bool s1, .slice a1 n1 c1, .slice d1 k1 e1] #[.bool s2, .slice a2 n2 c2, .slice d2 k2 e2] #[.bool false, .slice none 0 0, .slice none 0 0] 45 45 45;have hXW:HX (a0f X w.heap.size 3) W:=hX.boxes hz;have hu1:=QV.mono _ _ _ _ (a0o (nb:=3) hE) hu;have hv1:=QV.mono _ _ _ _ (a0o (nb:=3) hE) hv;obtain⟨b,hb⟩:∃b,w.heap.size=b:=⟨_,rfl⟩;have hbw:w.heap.size<=b:=by omega
 rw[hb]at b0 b1 b2 hz hXW hu1 hv1;have hEd:Ext W W.drew:=(ExtX.refl W).drew;have hXd:HX (a0f X b 3) W.drew:=hXW;have hud:QV (mk (a0f X b 3) W.drew) (.agg #[.bool s1, .slice a1 n1 c1, .slice d1 k1 e1]) x:=hu1;have hvd:QV (mk (a0f X b 3) W.drew) (.agg #[.bool s2, .slice a2 n2 c2, .slice d2 k2 e2]) y:=hv1;have k00:=b0.cell 0 rfl;have k01:=b0.cell 1 rfl;have k02:=b0.cell 2 rfl;have k10:=b1.cell 0 rfl;have k11:=b1.cell 1 rfl;have k12:=b1.cell 2 rfl;clear hu hv;go_enter Tryz.func52,Tryz.ntmps52
 go_upto_region 1 with(fail)
 go_cut []from 5 to 8 (fun wx=>∃s3 a3 n3 c3 d3 k3 e3 s4 a4 n4 c4 d4 k4 e4,Bx wx b #[.bool s3, .slice a3 n3 c3, .slice d3 k3 e3] 45/\Bx wx (b+1) #[.bool s4, .slice a4 n4 c4, .slice d4 k4 e4] 45/\Bx wx (b+1+1) #[.bool false, .slice none 0 0, .slice none 0 0] 45/\QC (mk (a0f X b 3) wx) (.agg #[.bool s3, .slice a3 n3 c3, .slice d3 k3 e3]) x/\QC (mk (a0f X b 3) wx) (.agg #[.bool s4, .slice a4 n4 c4, .slice d4 k4 e4]) y/\Ext w wx)
 case first=>
  go_region_with (first|(go_at_call 107;(with_reducible refine(a3t (a0f X b 3) W.drew _ x hXd hud).mono ?_);rintro ee w5 ⟨hE5,u5,rfl,hq5⟩;obtain⟨s5,a5,n5,c5,d5,k5,e5,rfl⟩:=hq5.shape;have bb0:=b0.ext0 (hEd.trans hE5);have bb1:=b1.ext0 (hEd.trans hE5);have e00:=bb0.cell 0 rfl;have e01:=bb0.cell 1 rfl;have e02:=bb0.cell 2 rfl;have e10:=bb1.cell 0 rfl;have e11:=bb1.cell 1 rfl;have e12:=bb1.cell 2 rfl)|(go_at_call 107;(with_reducible refine(a3t (a0f X b 3) w5 _ y (HX.ext hXd hE5) (mkx QV.mono hvd hE5)).mono ?_);rintro ee w6 ⟨hE6,u6,rfl,hq6⟩;obtain⟨s6,a6,n6,c6,d6,k6,e6,rfl⟩:=hq6.shape;have bb2:=bb0.ext0 hE6;have bb3:=bb1.ext0 hE6;have g00:=bb2.cell 0 rfl;have g01:=bb2.cell 1 rfl;have g02:=bb2.cell 2 rfl;have g10:=bb3.cell 0 rfl;have g11:=bb3.cell 1 rfl;have g12:=bb3.cell 2 rfl;have fr0:=bb2.frozen 0;have fr1:=bb2.frozen 1;have fr4:=bb2.frozen 2;have fr2:=bb3.frozen 0;have fr3:=bb3.frozen 1;have fr5:=bb3.frozen 2))
  all_goals
   obtain⟨wf,hwf,q0,q1,q2,q3,q4⟩:=a1V (X:=X) (nb:=3) bb2 bb3 (hE.trans ((hEd.trans hE5).trans hE6)) hbw (by omega) (.bool s5) (.slice a5 n5 c5) (.slice d5 k5 e5) (.bool s6) (.slice a6 n6 c6) (.slice d6 k6 e6);rw[hwf];have hfx:QC (mk (a0f X b 3) wf) (.agg #[.bool s5, .slice a5 n5 c5, .slice d5 k5 e5]) x:=QC.mono _ _ _ _ q4 (mkx QC.mono hq5 hE6);have hfy:QC (mk (a0f X b 3) wf) (.agg #[.bool s6, .slice a6 n6 c6, .slice d6 k6 e6]) y:=QC.mono _ _ _ _ q4 hq6;have q5:=q2 (b+1+1) _ _ (by omega) (by omega) ((b2.ext0 (hEd.trans hE5)).ext0 hE6);clear e00 e01 e02 e10 e11 e12 g00 g01 g02 g10 g11 g12 fr0 fr1 fr2 fr3 fr4 fr5 k00 k01 k02 k10 k11 k12 hwf;go_wp2_with fail
   go_meet
   exact⟨_,_,_,_,_,_,_,_,_,_,_,_,_,_,q0,q1,q5,hfx,hfy,q3⟩
 case rest=>
  clear k00 k01 k02 k10 k11 k12 b0 b1 b2 hu1 hv1 hud hvd hXd hEd hW;obtain⟨s3,a3,n3,c3,d3,k3,e3,s4,a4,n4,c4,d4,k4,e4,b0,b1,b2,hx,hy,hE1⟩:=hcut;have hzz:w.heap.size+3<=wc.heap.size:=by have:=b2.lt;omega
  obtain⟨hxz,hxm,hxdn⟩:=hx.num;obtain⟨hyz,hym,hydn⟩:=hy.num;have hXc:HX (a0f X b 3) wc:=hX.boxes' hE1 (by have:=hzz;omega) hzz;have k00:=b0.cell 0 rfl;have k01:=b0.cell 1 rfl;have k02:=b0.cell 2 rfl;have k10:=b1.cell 0 rfl;have k11:=b1.cell 1 rfl;have k12:=b1.cell 2 rfl;have hEd:Ext wc wc.drew:=(ExtX.refl wc).drew;have hXd:HX (a0f X b 3) wc.drew:=hXc;have hxd:QC (mk (a0f X b 3) wc.drew) (.agg #[.bool s3, .slice a3 n3 c3, .slice d3 k3 e3]) x:=hx;have hyd:QC (mk (a0f X b 3) wc.drew) (.agg #[.bool s4, .slice a4 n4 c4, .slice d4 k4 e4]) y:=hy;have hxzd:ZC (mk (a0f X b 3) wc.drew) (.agg #[.bool s3, .slice a3 n3 c3]) x.num:=hxz;have hyzd:ZC (mk (a0f X b 3) wc.drew) (.agg #[.bool s4, .slice a4 n4 c4]) y.num:=hyz;have bxn:lg x.num.natAbs<=549755813888:=Nat.le_trans (Nat.le_trans (a0A x) hlx.out) (by omega);have byn:lg y.num.natAbs<=549755813888:=Nat.le_trans (Nat.le_trans (a0A y) hly.out) (by omega);have bxd:lg x.den<=549755813888:=Nat.le_trans (Nat.le_trans (a0E x) hlx.out) (by omega);have byd:lg y.den<=549755813888:=Nat.le_trans (Nat.le_trans (a0E y) hly.out) (by omega);have bp1:lg (x.num*(y.den:Int)).natAbs<=274877906944:=by rw[Int.natAbs_mul,Int.natAbs_natCast];have:=a0X x.num.natAbs y.den;have:=a0A x;have:=a0E y;have:=hlx.out;have:=hly.out;omega
  have bp2:lg (y.num*(x.den:Int)).natAbs<=274877906944:=by rw[Int.natAbs_mul,Int.natAbs_natCast];have:=a0X y.num.natAbs x.den;have:=a0A y;have:=a0E x;have:=hlx.out;have:=hly.out;omega
  have bdd:lg (x.den*y.den)<=274877906944:=by have:=a0X x.den y.den;have:=a0E x;have:=a0E y;have:=hlx.out;have:=hly.out;omega
  have bnn:lg (x.num*y.num).natAbs<=274877906944:=by rw[Int.natAbs_mul];have:=a0X x.num.natAbs y.num.natAbs;have:=a0A x;have:=a0A y;have:=hlx.out;have:=hly.out;omega
  have bd0:0<x.den*y.den:=Nat.mul_pos x.den_pos y.den_pos;have hB:=hid (And.intro b0 b1);have hS:Hid (∀W',Ext wc.drew W'->W'.cell? ⟨b,0,none⟩=some (.bool s3)/\W'.cell? ⟨b,1,none⟩=some (.slice a3 n3 c3)/\W'.cell? ⟨b,2,none⟩=some (.slice d3 k3 e3)/\W'.cell? ⟨b+1,0,none⟩=some (.bool s4)/\W'.cell? ⟨b+1,1,none⟩=some (.slice a4 n4 c4)/\W'.cell? ⟨b+1,2,none⟩=some (.slice d4 k4 e4)):=
   hid fun W' h=>⟨(b0.ext0 (hEd.trans h)).cell 0 rfl,(b0.ext0 (hEd.trans h)).cell 1 rfl,(b0.ext0 (hEd.trans h)).cell 2 rfl,(b1.ext0 (hEd.trans h)).cell 0 rfl,(b1.ext0 (hEd.trans h)).cell 1 rfl,(b1.ext0 (hEd.trans h)).cell 2 rfl⟩
  have bqx:hq x<=549755813888:=Nat.le_trans hlx.out (by decide);have bqy:hq y<=549755813888:=Nat.le_trans hly.out (by decide);have cxn:lg x.num.natAbs<=274877906944:=Nat.le_trans (Nat.le_trans (a0A x) hlx.out) (by omega);have cyn:lg y.num.natAbs<=274877906944:=Nat.le_trans (Nat.le_trans (a0A y) hly.out) (by omega);have cxd:lg (x.den:Int).natAbs<=274877906944:=Nat.le_trans (Nat.le_trans (a0E x) hlx.out) (by omega);have cyd:lg (y.den:Int).natAbs<=274877906944:=Nat.le_trans (Nat.le_trans (a0E y) hly.out) (by omega);have cdd:lg ((x.den:Int)*(y.den:Int)).natAbs<=274877906944:=by rw[<-Int.natCast_mul,Int.natAbs_natCast];exact bdd
  have cd0:(x.den:Int)*(y.den:Int)≠0:=Int.mul_ne_zero (by have:=x.den_nz;omega) (by have:=y.den_nz;omega);have hfin:Hid (((x.num*y.num:Int):Rat)/(((x.den:Int)*(y.den:Int):Int):Rat)=x*y):=hid (by
   rw[<-Int.natCast_mul,Rat.intCast_natCast,<-Rat.mkRat_eq_div];exact(Rat.mul_def' x y).symm)
  go_wp2_with fail
  go_region_held3 (fun w'=>w'.cell? ⟨b,0,none⟩=some (.bool s3)/\w'.cell? ⟨b,1,none⟩=some (.slice a3 n3 c3)/\w'.cell? ⟨b,2,none⟩=some (.slice d3 k3 e3)/\w'.cell? ⟨b+1,0,none⟩=some (.bool s4)/\w'.cell? ⟨b+1,1,none⟩=some (.slice a4 n4 c4)/\w'.cell? ⟨b+1,2,none⟩=some (.slice d4 k4 e4))
   (first|exact hS.out _ t1|exact hS.out _ t2|exact hS.out _ t3|exact hS.out _ t4|exact hS.out _ t5|exact⟨((hB.out.1.ext0 (hEd.trans t5)).ext (bb2.set3 _ _ _).2 (a0b (by omega))).cell 0 rfl,((hB.out.1.ext0 (hEd.trans t5)).ext (bb2.set3 _ _ _).2 (a0b (by omega))).cell 1 rfl,((hB.out.1.ext0 (hEd.trans t5)).ext (bb2.set3 _ _ _).2 (a0b (by omega))).cell 2 rfl,((hB.out.2.ext0 (hEd.trans t5)).ext (bb2.set3 _ _ _).2 (a0b (by omega))).cell 0 rfl,((hB.out.2.ext0 (hEd.trans t5)).ext (bb2.set3 _ _ _).2 (a0b (by omega))).cell 1 rfl,((hB.out.2.ext0 (hEd.trans t5)).ext (bb2.set3 _ _ _).2 (a0b (by omega))).cell 2 rfl⟩|go_keep)
   (first|(go_at_call 136;(with_reducible refine(a8V (a0f X b 3) wc.drew _ _ x.num y.num hXd (hxzd.zv (Nat.le_trans cxn (by decide))) (hyzd.zv (Nat.le_trans cyn (by decide))) cxn cyn).mono ?_);rintro ee w5 ⟨t1,u5,rfl,hu5⟩;have hX5:=HX.ext hXd t1;have hx5:=mkx QC.mono hxd t1)|(go_at_call 137;(with_reducible refine(a7X (a0f X b 3) w5 _ x hX5 hx5 bqx).mono ?_);rintro ee w6 ⟨hE6,u6,rfl,hu6⟩;have t2:=t1.trans hE6;have hX6:=HX.ext hXd t2;have hy6:=mkx QC.mono hyd t2)|(go_at_call 137;(with_reducible refine(a7X (a0f X b 3) w6 _ y hX6 hy6 bqy).mono ?_);rintro ee w7 ⟨hE7,u7,rfl,hu7⟩;have t3:=t2.trans hE7;have hX7:=HX.ext hXd t3;have hm6:=mkx ZC.mono hu6 hE7)|(go_at_call 136;(with_reducible refine(a8V (a0f X b 3) w7 _ _ (x.den:Int) (y.den:Int) hX7 (hm6.zv (Nat.le_trans cxd (by decide))) (hu7.zv (Nat.le_trans cyd (by decide))) cxd cyd).mono ?_);rintro ee w8 ⟨hE8,u8,rfl,hu8⟩;have t4:=t3.trans hE8;have hX8:=HX.ext hXd t4;have hz5:=mkx ZC.mono hu5 (hE6.trans (hE7.trans hE8)))|(go_at_call 102;(with_reducible refine(a9Q (a0f X b 3) w8 _ _ _ _ hX8 hz5 hu8 bnn cdd cd0).mono ?_);rintro ee w9 ⟨hE9,u9,rfl,hu9⟩;have t5:=t4.trans hE9;obtain⟨s13,a13,n13,c13,d13,k13,e13,rfl⟩:=hu9.shape;have bb2:=b2.ext0 (hEd.trans t5);have g0:=bb2.cell 0 rfl;have g1:=bb2.cell 1 rfl;have g2:=bb2.cell 2 rfl;have f0:=bb2.frozen 0;have f1:=bb2.frozen 1;have f2:=bb2.frozen 2))
  rw[hfin.out]at hu9;obtain⟨r1,r2⟩:=bb2.set3 (.bool s13) (.slice a13 n13 c13) (.slice d13 k13 e13);have h7:=QC.mono _ _ _ _ a0l (QC.mono _ _ _ _ (a0i r2 (by omega) (by omega)) hu9);have hEf:Ext w _:=ExtX.box (hE1.trans (hEd.trans t5)) r2 (by omega);clear g0 g1 g2 f0 f1 f2 k00 k01 k02 k10 k11 k12 hS hB;go_wp2_with fail
  exact bodyPost_ret (a0e rfl rfl a0u r1 rfl) rfl ⟨hEf,_,rfl,h7⟩
set_option maxRecDepth 100000 in
set_option maxHeartbeats 1600000 in
theorem c0b (X:Nat->Bool) (w:World) (u v:Value) (x y:Rat) (hX:HX X w) (hu:QV (mk X w) u x) (hv:QV (mk X w) v y) (hy0:y≠0):Calls Tryz.prog 221 #[u,v] w (a1Z X w QC (x/y)):=by
 have hlx:=hid hu.hq;have hly:=hid hv.hq;obtain⟨s1,a1,n1,c1,d1,k1,e1,rfl⟩:=hu.shape;obtain⟨s2,a2,n2,c2,d2,k2,e2,rfl⟩:=hv.shape;obtain⟨W,hW,hE,b0,b1,b2,hz⟩:=a2x w #[.bool s1, .slice a1 n1 c1, .slice d1 k1 e1] #[.bool s2, .slice a2 n2 c2, .slice d2 k2 e2] #[.bool false, .slice none 0 0, .slice none 0 0] 45 45 45;have hXW:HX (a0f X w.heap.size 3) W:=hX.boxes hz;have hu1:=QV.mono _ _ _ _ (a0o (nb:=3) hE) hu;have hv1:=QV.mono _ _ _ _ (a0o (nb:=3) hE) hv;obtain⟨b,hb⟩:∃b,w.heap.size=b:=⟨_,rfl⟩;have hbw:w.heap.size<=b:=by omega
 rw[hb]at b0 b1 b2 hz hXW hu1 hv1;have hEd:Ext W W.drew:=(ExtX.refl W).drew;have hXd:HX (a0f X b 3) W.drew:=hXW;have hud:QV (mk (a0f X b 3) W.drew) (.agg #[.bool s1, .slice a1 n1 c1, .slice d1 k1 e1]) x:=hu1;have hvd:QV (mk (a0f X b 3) W.drew) (.agg #[.bool s2, .slice a2 n2 c2, .slice d2 k2 e2]) y:=hv1;have k00:=b0.cell 0 rfl;have k01:=b0.cell 1 rfl;have k02:=b0.cell 2 rfl;have k10:=b1.cell 0 rfl;have k11:=b1.cell 1 rfl;have k12:=b1.cell 2 rfl;clear hu hv;go_enter Tryz.func221,Tryz.ntmps221
 go_upto_region 1 with(fail)
 go_cut []from 5 to 8 (fun wx=>∃s3 a3 n3 c3 d3 k3 e3 s4 a4 n4 c4 d4 k4 e4,Bx wx b #[.bool s3, .slice a3 n3 c3, .slice d3 k3 e3] 45/\Bx wx (b+1) #[.bool s4, .slice a4 n4 c4, .slice d4 k4 e4] 45/\Bx wx (b+1+1) #[.bool false, .slice none 0 0, .slice none 0 0] 45/\QC (mk (a0f X b 3) wx) (.agg #[.bool s3, .slice a3 n3 c3, .slice d3 k3 e3]) x/\QC (mk (a0f X b 3) wx) (.agg #[.bool s4, .slice a4 n4 c4, .slice d4 k4 e4]) y/\Ext w wx)
 case first=>
  go_region_with (first|(go_at_call 107;(with_reducible refine(a3t (a0f X b 3) W.drew _ x hXd hud).mono ?_);rintro ee w5 ⟨hE5,u5,rfl,hq5⟩;obtain⟨s5,a5,n5,c5,d5,k5,e5,rfl⟩:=hq5.shape;have bb0:=b0.ext0 (hEd.trans hE5);have bb1:=b1.ext0 (hEd.trans hE5);have e00:=bb0.cell 0 rfl;have e01:=bb0.cell 1 rfl;have e02:=bb0.cell 2 rfl;have e10:=bb1.cell 0 rfl;have e11:=bb1.cell 1 rfl;have e12:=bb1.cell 2 rfl)|(go_at_call 107;(with_reducible refine(a3t (a0f X b 3) w5 _ y (HX.ext hXd hE5) (mkx QV.mono hvd hE5)).mono ?_);rintro ee w6 ⟨hE6,u6,rfl,hq6⟩;obtain⟨s6,a6,n6,c6,d6,k6,e6,rfl⟩:=hq6.shape;have bb2:=bb0.ext0 hE6;have bb3:=bb1.ext0 hE6;have g00:=bb2.cell 0 rfl;have g01:=bb2.cell 1 rfl;have g02:=bb2.cell 2 rfl;have g10:=bb3.cell 0 rfl;have g11:=bb3.cell 1 rfl;have g12:=bb3.cell 2 rfl;have fr0:=bb2.frozen 0;have fr1:=bb2.frozen 1;have fr4:=bb2.frozen 2;have fr2:=bb3.frozen 0;have fr3:=bb3.frozen 1;have fr5:=bb3.frozen 2))
  all_goals
   obtain⟨wf,hwf,q0,q1,q2,q3,q4⟩:=a1V (X:=X) (nb:=3) bb2 bb3 (hE.trans ((hEd.trans hE5).trans hE6)) hbw (by omega) (.bool s5) (.slice a5 n5 c5) (.slice d5 k5 e5) (.bool s6) (.slice a6 n6 c6) (.slice d6 k6 e6);rw[hwf];have hfx:QC (mk (a0f X b 3) wf) (.agg #[.bool s5, .slice a5 n5 c5, .slice d5 k5 e5]) x:=QC.mono _ _ _ _ q4 (mkx QC.mono hq5 hE6);have hfy:QC (mk (a0f X b 3) wf) (.agg #[.bool s6, .slice a6 n6 c6, .slice d6 k6 e6]) y:=QC.mono _ _ _ _ q4 hq6;have q5:=q2 (b+1+1) _ _ (by omega) (by omega) ((b2.ext0 (hEd.trans hE5)).ext0 hE6);clear e00 e01 e02 e10 e11 e12 g00 g01 g02 g10 g11 g12 fr0 fr1 fr2 fr3 fr4 fr5 k00 k01 k02 k10 k11 k12 hwf;go_wp2_with fail
   go_meet
   exact⟨_,_,_,_,_,_,_,_,_,_,_,_,_,_,q0,q1,q5,hfx,hfy,q3⟩
 case rest=>
  clear k00 k01 k02 k10 k11 k12 b0 b1 b2 hu1 hv1 hud hvd hXd hEd hW;obtain⟨s3,a3,n3,c3,d3,k3,e3,s4,a4,n4,c4,d4,k4,e4,b0,b1,b2,hx,hy,hE1⟩:=hcut;have hzz:w.heap.size+3<=wc.heap.size:=by have:=b2.lt;omega
  obtain⟨hxz,hxm,hxdn⟩:=hx.num;obtain⟨hyz,hym,hydn⟩:=hy.num;have hXc:HX (a0f X b 3) wc:=hX.boxes' hE1 (by have:=hzz;omega) hzz;have k00:=b0.cell 0 rfl;have k01:=b0.cell 1 rfl;have k02:=b0.cell 2 rfl;have k10:=b1.cell 0 rfl;have k11:=b1.cell 1 rfl;have k12:=b1.cell 2 rfl;have hEd:Ext wc wc.drew:=(ExtX.refl wc).drew;have hXd:HX (a0f X b 3) wc.drew:=hXc;have hxd:QC (mk (a0f X b 3) wc.drew) (.agg #[.bool s3, .slice a3 n3 c3, .slice d3 k3 e3]) x:=hx;have hyd:QC (mk (a0f X b 3) wc.drew) (.agg #[.bool s4, .slice a4 n4 c4, .slice d4 k4 e4]) y:=hy;have hxzd:ZC (mk (a0f X b 3) wc.drew) (.agg #[.bool s3, .slice a3 n3 c3]) x.num:=hxz;have hyzd:ZC (mk (a0f X b 3) wc.drew) (.agg #[.bool s4, .slice a4 n4 c4]) y.num:=hyz;have bxn:lg x.num.natAbs<=549755813888:=Nat.le_trans (Nat.le_trans (a0A x) hlx.out) (by omega);have byn:lg y.num.natAbs<=549755813888:=Nat.le_trans (Nat.le_trans (a0A y) hly.out) (by omega);have bxd:lg x.den<=549755813888:=Nat.le_trans (Nat.le_trans (a0E x) hlx.out) (by omega);have byd:lg y.den<=549755813888:=Nat.le_trans (Nat.le_trans (a0E y) hly.out) (by omega);have bp1:lg (x.num*(y.den:Int)).natAbs<=274877906944:=by rw[Int.natAbs_mul,Int.natAbs_natCast];have:=a0X x.num.natAbs y.den;have:=a0A x;have:=a0E y;have:=hlx.out;have:=hly.out;omega
  have bp2:lg (y.num*(x.den:Int)).natAbs<=274877906944:=by rw[Int.natAbs_mul,Int.natAbs_natCast];have:=a0X y.num.natAbs x.den;have:=a0A y;have:=a0E x;have:=hlx.out;have:=hly.out;omega
  have bdd:lg (x.den*y.den)<=274877906944:=by have:=a0X x.den y.den;have:=a0E x;have:=a0E y;have:=hlx.out;have:=hly.out;omega
  have bnn:lg (x.num*y.num).natAbs<=274877906944:=by rw[Int.natAbs_mul];have:=a0X x.num.natAbs y.num.natAbs;have:=a0A x;have:=a0A y;have:=hlx.out;have:=hly.out;omega
  have bd0:0<x.den*y.den:=Nat.mul_pos x.den_pos y.den_pos;have hB:=hid (And.intro b0 b1);have hS:Hid (∀W',Ext wc.drew W'->W'.cell? ⟨b,0,none⟩=some (.bool s3)/\W'.cell? ⟨b,1,none⟩=some (.slice a3 n3 c3)/\W'.cell? ⟨b,2,none⟩=some (.slice d3 k3 e3)/\W'.cell? ⟨b+1,0,none⟩=some (.bool s4)/\W'.cell? ⟨b+1,1,none⟩=some (.slice a4 n4 c4)/\W'.cell? ⟨b+1,2,none⟩=some (.slice d4 k4 e4)):=
   hid fun W' h=>⟨(b0.ext0 (hEd.trans h)).cell 0 rfl,(b0.ext0 (hEd.trans h)).cell 1 rfl,(b0.ext0 (hEd.trans h)).cell 2 rfl,(b1.ext0 (hEd.trans h)).cell 0 rfl,(b1.ext0 (hEd.trans h)).cell 1 rfl,(b1.ext0 (hEd.trans h)).cell 2 rfl⟩
  have bqx:hq x<=549755813888:=Nat.le_trans hlx.out (by decide);have bqy:hq y<=549755813888:=Nat.le_trans hly.out (by decide);have cxn:lg x.num.natAbs<=274877906944:=Nat.le_trans (Nat.le_trans (a0A x) hlx.out) (by omega);have cyn:lg y.num.natAbs<=274877906944:=Nat.le_trans (Nat.le_trans (a0A y) hly.out) (by omega);have cxd:lg (x.den:Int).natAbs<=274877906944:=Nat.le_trans (Nat.le_trans (a0E x) hlx.out) (by omega);have cyd:lg (y.den:Int).natAbs<=274877906944:=Nat.le_trans (Nat.le_trans (a0E y) hly.out) (by omega);have cdd:lg ((x.den:Int)*(y.den:Int)).natAbs<=274877906944:=by rw[<-Int.natCast_mul,Int.natAbs_natCast];exact bdd
  have cd0:(x.den:Int)*(y.den:Int)≠0:=Int.mul_ne_zero (by have:=x.den_nz;omega) (by have:=y.den_nz;omega);have cp2:lg ((x.den:Int)*y.num).natAbs<=274877906944:=by rw[Int.mul_comm];exact bp2
  have cq0:(x.den:Int)*y.num≠0:=Int.mul_ne_zero (by have:=x.den_nz;omega) (fun h=>hy0 (Rat.num_eq_zero.1 h));have hfin:Hid (((x.num*(y.den:Int):Int):Rat)/(((x.den:Int)*y.num:Int):Rat)=x/y):=hid (by rw[Int.mul_comm (x.den:Int)];exact b5O x y);go_wp2_with fail
  go_region_held3 (fun w'=>w'.cell? ⟨b,0,none⟩=some (.bool s3)/\w'.cell? ⟨b,1,none⟩=some (.slice a3 n3 c3)/\w'.cell? ⟨b,2,none⟩=some (.slice d3 k3 e3)/\w'.cell? ⟨b+1,0,none⟩=some (.bool s4)/\w'.cell? ⟨b+1,1,none⟩=some (.slice a4 n4 c4)/\w'.cell? ⟨b+1,2,none⟩=some (.slice d4 k4 e4))
   (first|exact hS.out _ t1|exact hS.out _ t2|exact hS.out _ t3|exact hS.out _ t4|exact hS.out _ t5|exact⟨((hB.out.1.ext0 (hEd.trans t5)).ext (bb2.set3 _ _ _).2 (a0b (by omega))).cell 0 rfl,((hB.out.1.ext0 (hEd.trans t5)).ext (bb2.set3 _ _ _).2 (a0b (by omega))).cell 1 rfl,((hB.out.1.ext0 (hEd.trans t5)).ext (bb2.set3 _ _ _).2 (a0b (by omega))).cell 2 rfl,((hB.out.2.ext0 (hEd.trans t5)).ext (bb2.set3 _ _ _).2 (a0b (by omega))).cell 0 rfl,((hB.out.2.ext0 (hEd.trans t5)).ext (bb2.set3 _ _ _).2 (a0b (by omega))).cell 1 rfl,((hB.out.2.ext0 (hEd.trans t5)).ext (bb2.set3 _ _ _).2 (a0b (by omega))).cell 2 rfl⟩|go_keep)
   (first|(go_at_call 137;(with_reducible refine(a7X (a0f X b 3) wc.drew _ y hXd hyd bqy).mono ?_);rintro ee w5 ⟨t1,u5,rfl,hu5⟩;have hX5:=HX.ext hXd t1;have hx5:=mkx ZC.mono hxzd t1)|(go_at_call 136;(with_reducible refine(a8V (a0f X b 3) w5 _ _ x.num (y.den:Int) hX5 (hx5.zv (Nat.le_trans cxn (by decide))) (hu5.zv (Nat.le_trans cyd (by decide))) cxn cyd).mono ?_);rintro ee w6 ⟨hE6,u6,rfl,hu6⟩;have t2:=t1.trans hE6;have hX6:=HX.ext hXd t2;have hx6:=mkx QC.mono hxd t2)|(go_at_call 137;(with_reducible refine(a7X (a0f X b 3) w6 _ x hX6 hx6 bqx).mono ?_);rintro ee w7 ⟨hE7,u7,rfl,hu7⟩;have t3:=t2.trans hE7;have hX7:=HX.ext hXd t3;have hy7:=mkx ZC.mono hyzd t3)|(go_at_call 136;(with_reducible refine(a8V (a0f X b 3) w7 _ _ (x.den:Int) y.num hX7 (hu7.zv (Nat.le_trans cxd (by decide))) (hy7.zv (Nat.le_trans cyn (by decide))) cxd cyn).mono ?_);rintro ee w8 ⟨hE8,u8,rfl,hu8⟩;have t4:=t3.trans hE8;have hX8:=HX.ext hXd t4;have hz6:=mkx ZC.mono hu6 (hE7.trans hE8))|(go_at_call 102;(with_reducible refine(a9Q (a0f X b 3) w8 _ _ _ _ hX8 hz6 hu8 bp1 cp2 cq0).mono ?_);rintro ee w9 ⟨hE9,u9,rfl,hu9⟩;have t5:=t4.trans hE9;obtain⟨s13,a13,n13,c13,d13,k13,e13,rfl⟩:=hu9.shape;have bb2:=b2.ext0 (hEd.trans t5);have g0:=bb2.cell 0 rfl;have g1:=bb2.cell 1 rfl;have g2:=bb2.cell 2 rfl;have f0:=bb2.frozen 0;have f1:=bb2.frozen 1;have f2:=bb2.frozen 2))
  rw[hfin.out]at hu9;obtain⟨r1,r2⟩:=bb2.set3 (.bool s13) (.slice a13 n13 c13) (.slice d13 k13 e13);have h7:=QC.mono _ _ _ _ a0l (QC.mono _ _ _ _ (a0i r2 (by omega) (by omega)) hu9);have hEf:Ext w _:=ExtX.box (hE1.trans (hEd.trans t5)) r2 (by omega);clear g0 g1 g2 f0 f1 f2 k00 k01 k02 k10 k11 k12 hS hB;go_wp2_with fail
  exact bodyPost_ret (a0e rfl rfl a0u r1 rfl) rfl ⟨hEf,_,rfl,h7⟩
set_option maxRecDepth 100000 in
theorem b5P (X:Nat->Bool) (w:World) (u v:Value) (l:List Rat) (c:Rat) (hX:HX X w) (hu:RV (mk X w) u l) (hv:QV (mk X w) v c) (hl:l.length<=1000000):Calls Tryz.prog 233 #[u,v] w (a1Z X w RC (l.map (· *c))):=by
 obtain⟨ao,ca,rfl,hca,hsa0⟩:=hu;have hha:=hsa0.hd;obtain⟨s2,a2,n2,c2,d2,k2,e2,rfl⟩:=hv.shape;obtain⟨W,hW,hEW,b0,hz⟩:=a1t w #[.bool s2, .slice a2 n2 c2, .slice d2 k2 e2] 45;have hXW:HX X W:=hX.ext hEW;have hsa:=hsa0.mono QV.mono (a0p hEW);have hvW:=mkx QV.mono hv hEW;obtain⟨b,hb⟩:∃b,w.heap.size=b:=⟨_,rfl⟩;rw[hb]at b0 hz;obtain⟨L,hL⟩:∃L,l.map (· *c)=L:=⟨_,rfl⟩;have hLl:L.length=l.length:=by rw[<-hL];simp
 have hLi:=hid (show∀i (hi:i<l.length) (hi':i<L.length),L[i]=l[i]*c from fun i hi hi'=>by subst hL;simp);rw[hL];clear hL hsa0 hv;go_enter Tryz.func233,Tryz.ntmps233
 go_wp2_with fail
 go_loopw [5,6] (fun o cc wr=>∃(i:Nat) (oo:Option Addr) (co:Nat),cc= .int .i64 i/\o= .slice oo i co/\i<=l.length/\OL QC 3 X W.heap.size 45 wr oo co (L.take i)/\Ext W wr) (fun _ cc _=>l.length - (intOf cc).toNat)
 case atStart=>exact⟨0,none,0,rfl,rfl,Nat.zero_le _,OL.nil _ _ _ _ _ _,ExtX.refl _⟩
 case round=>
  obtain⟨i,oo,co,rfl,rfl,hi,hO,hE⟩:=hrel;have hXr:HX X wr:=hXW.ext hE;have hXu:HX (un X oo) wr:=hO.unX hXr;have hbase:=hE.size;by_cases hlt:i<l.length
  ·have hsr:Sl QV 3 (mk (un X oo) wr) ao l:=hsa.old QV.mono hE (fun j hj=>hO.ob_lt hj)
   have hltL:i<L.length:=by omega
   have htk:=hid (a0N L i hltL);have hln:=hid (a1a (l:=L) (i:=i) (by omega));obtain⟨g1,o1,s1,a1,n1,c1,d1,k1,e1,hg1,hX1,hc1,hq1⟩:=hsr.rat QV.shaped i hlt;have hob1:=(a1q hX1).2;have hobb:ob oo b=false:=hO.ob_lt (by omega);have i1:∀W,(Instr.indexAt 24 (.slice ao l.length ca) (.int .i64 (i:Int))).run Tryz.prog W= .ok (.pointer (some ⟨g1,o1,none⟩)) W:=by rw[<-hg1];exact a0h a0D ao l.length ca .i64 i hha (by omega)
   have hEd:Ext wr wr.drew:=(ExtX.refl wr).drew;have hS:Hid (∀Y W',ExtX Y wr.drew W'->Y g1=false->Y b=false->W'.cell? ⟨g1,o1,none⟩=some (.bool s1)/\W'.cell? ⟨g1,o1+1,none⟩=some (.slice a1 n1 c1)/\W'.cell? ⟨g1,o1+2,none⟩=some (.slice d1 k1 e1)/\W'.cell? ⟨b,0,none⟩=some (.bool s2)/\W'.cell? ⟨b,1,none⟩=some (.slice a2 n2 c2)/\W'.cell? ⟨b,2,none⟩=some (.slice d2 k2 e2)):=hid fun Y W' h hg hb=>by
    have p1:=hc1.out Y W' ((ExtX.of hEd).trans h) hg;have b1:=(b0.ext0 (hE.trans hEd)).ext h hb;exact⟨p1.1,p1.2.1,p1.2.2,b1.cell 0 rfl,b1.cell 1 rfl,b1.cell 2 rfl⟩
   obtain⟨k00,k01,k02,k10,k11,k12⟩:=hS.out noY wr.drew (ExtX.refl _) rfl rfl;have hxd:QV (mk (un X oo) wr.drew) (.agg #[.bool s1, .slice a1 n1 c1, .slice d1 k1 e1]) l[i]:=hq1;have hvd:QV (mk (un X oo) wr.drew) (.agg #[.bool s2, .slice a2 n2 c2, .slice d2 k2 e2]) c:=a6b QV.mono hvW (hE.trans hEd) (fun j hj=>hO.ob_lt hj);have hXd:HX (un X oo) wr.drew:=hXu;have hyi:=hLi.out i hlt hltL;rw[hyi]at htk;clear hc1 hg1 hq1;go_wp2_with fail
   go_region_held3 (fun w'=>w'.cell? ⟨g1,o1,none⟩=some (.bool s1)/\w'.cell? ⟨g1,o1+1,none⟩=some (.slice a1 n1 c1)/\w'.cell? ⟨g1,o1+2,none⟩=some (.slice d1 k1 e1)/\w'.cell? ⟨b,0,none⟩=some (.bool s2)/\w'.cell? ⟨b,1,none⟩=some (.slice a2 n2 c2)/\w'.cell? ⟨b,2,none⟩=some (.slice d2 k2 e2))
    (first|exact hS.out noY _ t1 rfl rfl|exact hS.out noY _ (ExtX.alloc t1 _) rfl rfl|exact hS.out (ob oo) _ ((ExtX.of t1).trans hE7) hob1 hobb|go_keep)
    (first|(go_at_call 52;(with_reducible refine(b1E (un X oo) wr.drew _ _ _ c hXd hxd hvd).mono ?_);rintro ee w6 ⟨t1,u6,rfl,hu6⟩;obtain⟨s6,a6,n6,c6,d6,k6,e6,rfl⟩:=hu6.shape;have hO6:=hO.ext0 QC.elem (hEd.trans t1);have hb6:=(hEd.trans t1).size;have hX6:=hXr.ext (hEd.trans t1))|(refine a1K (l:=L.take i) rfl (by rfl) a0D rfl QC.elem (by omega) hX6 i hln.out rfl rfl hO6 (.agg #[.bool s6, .slice a6 n6 c6, .slice d6 k6 e6]) (l[i]*c) rfl hu6 (by omega) (by omega) ?_;intro oo2 co2 w7 hO7 hE7 hor))
   have hE8:=(hE.trans (hEd.trans t1)).own hO6 (Nat.le_refl _) hE7;rw[htk.out]at hO7;clear k00 k01 k02 k10 k11 k12;go_wp2_with fail
   go_roundw
   case rel=>exact⟨i+1,oo2,co2,by go_num,by go_num,by omega,hO7,hE8⟩
   case measure=>simp[intOf];omega
  ·have hil:i=l.length:=by omega
   subst hil;rw[List.take_of_length_le (by omega)]at hO;have hc:=hO.lenCap;have hs:=hO.sl QC.elem;go_wp2_with fail
   go_ret
   exact⟨hEW.trans hE,_,rfl,oo,co,by rw[hLl];rfl,hc,hs⟩
set_option maxRecDepth 100000 in
theorem c0c (X:Nat->Bool) (w:World) (u v:Value) (l m:List Rat) (hX:HX X w) (hu:RV (mk X w) u l) (hv:RV (mk X w) v m) (hl:l.length<=1000000) (hml:m.length=l.length):Calls Tryz.prog 234 #[u,v] w (a1Z X w RC (List.zipWith (· + ·) l m)):=by
 obtain⟨ao,ca,rfl,hca,hsa⟩:=hu;have hha:=hsa.hd;obtain⟨bo,cb,rfl,hcb,hsb⟩:=hv;have hhb:=hsb.hd;have hml1:m.length<=l.length:=by omega
 have hml2:l.length<=m.length:=by omega
 obtain⟨L,hL⟩:∃L,List.zipWith (· + ·) l m=L:=⟨_,rfl⟩;have hLl:L.length=l.length:=by rw[<-hL];simp;omega
 have hLi:=hid (show∀i (hi:i<l.length) (hj:i<m.length) (hi':i<L.length),L[i]=l[i]+m[i]from fun i hi hj hi'=>by subst hL;simp);rw[hL];have hLl1:L.length<=l.length:=by omega
 have hLl2:l.length<=L.length:=by omega
 have hLl':=hid hLl;clear hL hml hLl;go_enter Tryz.func234,Tryz.ntmps234
 go_wp2_with fail
 go_loopw [5,6] (fun o cc wr=>∃(i:Nat) (oo:Option Addr) (co:Nat),cc= .int .i64 i/\o= .slice oo i co/\i<=l.length/\OL QC 3 X w.heap.size 45 wr oo co (L.take i)/\Ext w wr) (fun _ cc _=>l.length - (intOf cc).toNat)
 case atStart=>exact⟨0,none,0,rfl,rfl,Nat.zero_le _,OL.nil _ _ _ _ _ _,ExtX.refl _⟩
 case round=>
  obtain⟨i,oo,co,rfl,rfl,hi,hO,hE⟩:=hrel;have hXr:HX X wr:=hX.ext hE;have hXu:HX (un X oo) wr:=hO.unX hXr;have hbase:=hE.size;by_cases hlt:i<l.length
  ·have hsr:Sl QV 3 (mk (un X oo) wr) ao l:=hsa.old QV.mono hE (fun j hj=>hO.ob_lt hj)
   have hltL:i<L.length:=by omega
   have htk:=hid (a0N L i hltL);have hln:=hid (a1a (l:=L) (i:=i) (by omega));have hltm:i<m.length:=by omega
   have hsr2:Sl QV 3 (mk (un X oo) wr) bo m:=hsb.old QV.mono hE (fun j hj=>hO.ob_lt hj);obtain⟨g2,o2,s2,a2,n2,c2,d2,k2,e2,hg2,hX2,hc2,hq2⟩:=hsr2.rat QV.shaped i hltm;obtain⟨g1,o1,s1,a1,n1,c1,d1,k1,e1,hg1,hX1,hc1,hq1⟩:=hsr.rat QV.shaped i hlt;have hob1:=(a1q hX1).2;have hobb:=(a1q hX2).2;have i2:∀W,(Instr.indexAt 24 (.slice bo m.length cb) (.int .i64 (i:Int))).run Tryz.prog W= .ok (.pointer (some ⟨g2,o2,none⟩)) W:=by rw[<-hg2];exact a0h a0D bo m.length cb .i64 i hhb (by omega)
   have i1:∀W,(Instr.indexAt 24 (.slice ao l.length ca) (.int .i64 (i:Int))).run Tryz.prog W= .ok (.pointer (some ⟨g1,o1,none⟩)) W:=by rw[<-hg1];exact a0h a0D ao l.length ca .i64 i hha (by omega)
   have hEd:Ext wr wr.drew:=(ExtX.refl wr).drew;have hS:Hid (∀Y W',ExtX Y wr.drew W'->Y g1=false->Y g2=false->W'.cell? ⟨g1,o1,none⟩=some (.bool s1)/\W'.cell? ⟨g1,o1+1,none⟩=some (.slice a1 n1 c1)/\W'.cell? ⟨g1,o1+2,none⟩=some (.slice d1 k1 e1)/\W'.cell? ⟨g2,o2,none⟩=some (.bool s2)/\W'.cell? ⟨g2,o2+1,none⟩=some (.slice a2 n2 c2)/\W'.cell? ⟨g2,o2+2,none⟩=some (.slice d2 k2 e2)):=hid fun Y W' h hg hb=>by
    have p1:=hc1.out Y W' ((ExtX.of hEd).trans h) hg;have p2:=hc2.out Y W' ((ExtX.of hEd).trans h) hb;exact⟨p1.1,p1.2.1,p1.2.2,p2.1,p2.2.1,p2.2.2⟩
   obtain⟨k00,k01,k02,k10,k11,k12⟩:=hS.out noY wr.drew (ExtX.refl _) rfl rfl;have hxd:QV (mk (un X oo) wr.drew) (.agg #[.bool s1, .slice a1 n1 c1, .slice d1 k1 e1]) l[i]:=hq1;have hvd:QV (mk (un X oo) wr.drew) (.agg #[.bool s2, .slice a2 n2 c2, .slice d2 k2 e2]) m[i]:=hq2;have hXd:HX (un X oo) wr.drew:=hXu;have hyi:=hLi.out i hlt hltm hltL;rw[hyi]at htk;clear hc1 hg1 hq1 hc2 hg2 hq2;go_wp2_with fail
   go_region_held3 (fun w'=>w'.cell? ⟨g1,o1,none⟩=some (.bool s1)/\w'.cell? ⟨g1,o1+1,none⟩=some (.slice a1 n1 c1)/\w'.cell? ⟨g1,o1+2,none⟩=some (.slice d1 k1 e1)/\w'.cell? ⟨g2,o2,none⟩=some (.bool s2)/\w'.cell? ⟨g2,o2+1,none⟩=some (.slice a2 n2 c2)/\w'.cell? ⟨g2,o2+2,none⟩=some (.slice d2 k2 e2))
    (first|exact hS.out noY _ t1 rfl rfl|exact hS.out noY _ (ExtX.alloc t1 _) rfl rfl|exact hS.out (ob oo) _ ((ExtX.of t1).trans hE7) hob1 hobb|go_keep)
    (first|(go_at_call 51;(with_reducible refine(b3V (un X oo) wr.drew _ _ _ _ hXd hxd hvd).mono ?_);rintro ee w6 ⟨t1,u6,rfl,hu6⟩;obtain⟨s6,a6,n6,c6,d6,k6,e6,rfl⟩:=hu6.shape;have hO6:=hO.ext0 QC.elem (hEd.trans t1);have hb6:=(hEd.trans t1).size;have hX6:=hXr.ext (hEd.trans t1))|(refine a1K (l:=L.take i) rfl (by rfl) a0D rfl QC.elem (by omega) hX6 i hln.out rfl rfl hO6 (.agg #[.bool s6, .slice a6 n6 c6, .slice d6 k6 e6]) (l[i]+m[i]) rfl hu6 (by omega) (by omega) ?_;intro oo2 co2 w7 hO7 hE7 hor))
   have hE8:=(hE.trans (hEd.trans t1)).own hO6 (Nat.le_refl _) hE7;rw[htk.out]at hO7;clear k00 k01 k02 k10 k11 k12;go_wp2_with fail
   go_roundw
   case rel=>exact⟨i+1,oo2,co2,by go_num,by go_num,by omega,hO7,hE8⟩
   case measure=>simp[intOf];omega
  ·have hil:i=l.length:=by omega
   subst hil;rw[List.take_of_length_le (by omega)]at hO;have hc:=hO.lenCap;have hs:=hO.sl QC.elem;go_wp2_with fail
   go_ret
   exact⟨hE,_,rfl,oo,co,by rw[hLl'.out];rfl,hc,hs⟩
end Go.Proofs.YtidbbddagfnfbaaGreat
namespace Go.Lin
open Go.Lim
end Go.Lin
namespace Go.Proofs.YtidbbddagfnfbaaGreat
open Go.RowKit Go.Rep Go.Lim Go.Lin
set_option maxRecDepth 100000 in
theorem b8M (X:Nat->Bool) (w:World) (u v:Value) (x y:Rat) (hX:HX X w) (hu:QV (mk X w) u x) (hv:QV (mk X w) v y):Calls Tryz.prog 50 #[u,v] w (a1Z X w QC (x - y)):=by
 have hlx:=hid hu.hq;have hly:=hid hv.hq;obtain⟨s1,a1,n1,c1,d1,k1,e1,rfl⟩:=hu.shape;obtain⟨s2,a2,n2,c2,d2,k2,e2,rfl⟩:=hv.shape;obtain⟨W,hW,hE,b0,b1,b2,hz⟩:=a2x w #[.bool s1, .slice a1 n1 c1, .slice d1 k1 e1] #[.bool s2, .slice a2 n2 c2, .slice d2 k2 e2] #[.bool false, .slice none 0 0, .slice none 0 0] 45 45 45;have hXW:HX (a0f X w.heap.size 3) W:=hX.boxes hz;have hu1:=QV.mono _ _ _ _ (a0o (nb:=3) hE) hu;have hv1:=QV.mono _ _ _ _ (a0o (nb:=3) hE) hv;obtain⟨b,hb⟩:∃b,w.heap.size=b:=⟨_,rfl⟩;have hbw:w.heap.size<=b:=by omega
 rw[hb]at b0 b1 b2 hz hXW hu1 hv1;have hEd:Ext W W.drew:=(ExtX.refl W).drew;have hXd:HX (a0f X b 3) W.drew:=hXW;have hud:QV (mk (a0f X b 3) W.drew) (.agg #[.bool s1, .slice a1 n1 c1, .slice d1 k1 e1]) x:=hu1;have hvd:QV (mk (a0f X b 3) W.drew) (.agg #[.bool s2, .slice a2 n2 c2, .slice d2 k2 e2]) y:=hv1;have k00:=b0.cell 0 rfl;have k01:=b0.cell 1 rfl;have k02:=b0.cell 2 rfl;have k10:=b1.cell 0 rfl;have k11:=b1.cell 1 rfl;have k12:=b1.cell 2 rfl;clear hu hv;have hB:=hid (And.intro b0 b1);have hS:Hid (∀W',Ext W.drew W'->W'.cell? ⟨b,0,none⟩=some (.bool s1)/\W'.cell? ⟨b,1,none⟩=some (.slice a1 n1 c1)/\W'.cell? ⟨b,2,none⟩=some (.slice d1 k1 e1)/\W'.cell? ⟨b+1,0,none⟩=some (.bool s2)/\W'.cell? ⟨b+1,1,none⟩=some (.slice a2 n2 c2)/\W'.cell? ⟨b+1,2,none⟩=some (.slice d2 k2 e2)):=
  hid fun W' h=>⟨(b0.ext0 (hEd.trans h)).cell 0 rfl,(b0.ext0 (hEd.trans h)).cell 1 rfl,(b0.ext0 (hEd.trans h)).cell 2 rfl,(b1.ext0 (hEd.trans h)).cell 0 rfl,(b1.ext0 (hEd.trans h)).cell 1 rfl,(b1.ext0 (hEd.trans h)).cell 2 rfl⟩
 have hny:=hid (show hq (-y)<=68719476736 by rw[a5v];exact hly.out);have hsum:Hid (x+ -y=x - y):=hid (Rat.sub_eq_add_neg x y).symm;go_enter Tryz.func50,Tryz.ntmps50
 go_upto_region 1 with(fail)
 go_region_held3 (fun w'=>w'.cell? ⟨b,0,none⟩=some (.bool s1)/\w'.cell? ⟨b,1,none⟩=some (.slice a1 n1 c1)/\w'.cell? ⟨b,2,none⟩=some (.slice d1 k1 e1)/\w'.cell? ⟨b+1,0,none⟩=some (.bool s2)/\w'.cell? ⟨b+1,1,none⟩=some (.slice a2 n2 c2)/\w'.cell? ⟨b+1,2,none⟩=some (.slice d2 k2 e2))
  (first|exact hS.out _ t1|exact hS.out _ t2|exact⟨((hB.out.1.ext0 (hEd.trans t2)).ext (bb2.set3 _ _ _).2 (a0b (by omega))).cell 0 rfl,((hB.out.1.ext0 (hEd.trans t2)).ext (bb2.set3 _ _ _).2 (a0b (by omega))).cell 1 rfl,((hB.out.1.ext0 (hEd.trans t2)).ext (bb2.set3 _ _ _).2 (a0b (by omega))).cell 2 rfl,((hB.out.2.ext0 (hEd.trans t2)).ext (bb2.set3 _ _ _).2 (a0b (by omega))).cell 0 rfl,((hB.out.2.ext0 (hEd.trans t2)).ext (bb2.set3 _ _ _).2 (a0b (by omega))).cell 1 rfl,((hB.out.2.ext0 (hEd.trans t2)).ext (bb2.set3 _ _ _).2 (a0b (by omega))).cell 2 rfl⟩|go_keep)
  (first|(go_at_call 134;(with_reducible refine(b6O (a0f X b 3) W.drew _ y hXd hvd).mono ?_);rintro ee w5 ⟨t1,u5,rfl,hu5⟩;have hX5:=HX.ext hXd t1;have hx5:=mkx QV.mono hud t1)|(go_at_call 51;(with_reducible refine(b3V (a0f X b 3) w5 _ _ x (-y) hX5 hx5 (hu5.qv hny.out)).mono ?_);rintro ee w6 ⟨hE6,u6,rfl,hu6⟩;obtain⟨s6,a6,n6,c6,d6,k6,e6,rfl⟩:=hu6.shape;have t2:=t1.trans hE6;have bb2:=b2.ext0 (hEd.trans t2);have g0:=bb2.cell 0 rfl;have g1:=bb2.cell 1 rfl;have g2:=bb2.cell 2 rfl;have f0:=bb2.frozen 0;have f1:=bb2.frozen 1;have f2:=bb2.frozen 2))
 rw[hsum.out]at hu6;obtain⟨q1,q2⟩:=bb2.set3 (.bool s6) (.slice a6 n6 c6) (.slice d6 k6 e6);have h7:=QC.mono _ _ _ _ a0l (QC.mono _ _ _ _ (a0i q2 (by omega) (by omega)) hu6);have hEf:Ext w _:=ExtX.box (hE.trans (hEd.trans t2)) q2 (by omega);clear g0 g1 g2 f0 f1 f2 k00 k01 k02 k10 k11 k12 hS hB;go_wp2_with fail
 exact bodyPost_ret (a0e rfl rfl a0u q1 rfl) rfl ⟨hEf,_,rfl,h7⟩
set_option maxRecDepth 100000 in
theorem b1F (X:Nat->Bool) (w:World) (u v:Value) (x y:Rat) (hX:HX X w) (hu:QV (mk X w) u x) (hv:QV (mk X w) v y) (hxy:hq (x - y)<=68719476736):Calls Tryz.prog 22 #[u,v] w (a4j w (x - y).num.sign):=by
 have hlx:=hid hu.hq;have hly:=hid hv.hq;obtain⟨s1,a1,n1,c1,d1,k1,e1,rfl⟩:=hu.shape;obtain⟨s2,a2,n2,c2,d2,k2,e2,rfl⟩:=hv.shape;obtain⟨W,hW,hE,b0,b1,hz⟩:=a1v w #[.bool s1, .slice a1 n1 c1, .slice d1 k1 e1] #[.bool s2, .slice a2 n2 c2, .slice d2 k2 e2] 45 45;have hXW:HX (a0f X w.heap.size 2) W:=hX.boxes hz;have hu1:=QV.mono _ _ _ _ (a0o (nb:=2) hE) hu;have hv1:=QV.mono _ _ _ _ (a0o (nb:=2) hE) hv;obtain⟨b,hb⟩:∃b,w.heap.size=b:=⟨_,rfl⟩;have hbw:w.heap.size<=b:=by omega
 rw[hb]at b0 b1 hz hXW hu1 hv1;have hEd:Ext W W.drew:=(ExtX.refl W).drew;have hXd:HX (a0f X b 2) W.drew:=hXW;have hud:QV (mk (a0f X b 2) W.drew) (.agg #[.bool s1, .slice a1 n1 c1, .slice d1 k1 e1]) x:=hu1;have hvd:QV (mk (a0f X b 2) W.drew) (.agg #[.bool s2, .slice a2 n2 c2, .slice d2 k2 e2]) y:=hv1;have k00:=b0.cell 0 rfl;have k01:=b0.cell 1 rfl;have k02:=b0.cell 2 rfl;have k10:=b1.cell 0 rfl;have k11:=b1.cell 1 rfl;have k12:=b1.cell 2 rfl;clear hu hv
 replace hxy:=hid hxy
 obtain⟨q,hq'⟩:∃q:Rat,x - y=q:=⟨_,rfl⟩;rw[hq']at hxy |-;have hq2:=hid hq';clear hq';go_enter Tryz.func22,Tryz.ntmps22
 go_wp2_with fail
 refine(b8M (a0f X b 2) W _ _ x y hXW hu1 hv1).mono ?_;rintro e w5 ⟨hE5,u5,rfl,hu5⟩;rw[hq2.out]at hu5;obtain⟨s5,a5,n5,c5,d5,k5,e5,rfl⟩:=hu5.shape;clear k00 k01 k02 k10 k11 k12;go_wp2_with fail
 refine(a6T (a0f X b 2) w5 _ q (hXW.ext hE5) (hu5.qv hxy.out)).mono ?_;rintro e w6 ⟨hE6,rfl⟩;go_wp2_with fail
 go_ret
 exact⟨hE.trans (hE5.trans hE6),rfl⟩
set_option maxRecDepth 100000 in
theorem a6U (X:Nat->Bool) (w:World) (a k:Int) (hX:HX X w) (h1: -9223372036854775808<=a) (h2:a<=9223372036854775807) (h3: -9223372036854775808<=k) (h4:k<=9223372036854775807) (hk:k≠0) (ha:lg a.natAbs<=274877906944) (hkl:lg k.natAbs<=274877906944):Calls Tryz.prog 29 #[.int .i64 a, .int .i64 k] w (a1Z X w QC ((a:Rat)/(k:Rat))):=by
 obtain⟨W,hW,hE,b0,hz⟩:=a1t w #[.bool false, .slice none 0 0, .slice none 0 0] 45;have hXW:HX (a0f X w.heap.size 1) W:=hX.boxes hz;obtain⟨b,hb⟩:∃b,w.heap.size=b:=⟨_,rfl⟩;have hbw:w.heap.size<=b:=by omega
 rw[hb]at b0 hz hXW;have hI:=hid (And.intro (And.intro h1 h2) (And.intro (And.intro h3 h4) (And.intro hk (And.intro ha hkl))));clear h1 h2 h3 h4 hk ha hkl;go_enter Tryz.func29,Tryz.ntmps29
 go_wp2_with fail
 refine(b1B (a0f X b 1) W a hXW hI.out.1.1 hI.out.1.2).mono ?_;rintro e1 w1 ⟨hE1,u1,rfl,hu1⟩;have hX1:=hXW.ext hE1;go_wp2_with fail
 refine(b1B (a0f X b 1) w1 k hX1 hI.out.2.1.1 hI.out.2.1.2).mono ?_;rintro e2 w2 ⟨hE2,u2,rfl,hu2⟩;go_wp2_with fail
 refine(a9Q (a0f X b 1) w2 _ _ a k (hX1.ext hE2) (mkx ZC.mono hu1 hE2) hu2 hI.out.2.2.2.1 hI.out.2.2.2.2 hI.out.2.2.1).mono ?_;rintro e3 w3 ⟨hE3,u3,rfl,hu3⟩;obtain⟨s5,a5,n5,c5,d5,k5,e5,rfl⟩:=hu3.shape;have bb:=((b0.ext0 hE1).ext0 hE2).ext0 hE3;go_wp2_with ((with_reducible show wpList _ _ _ (⟨_, .store _ _ _,_,_,_,_⟩::_) _ _);refine a0c a0u rfl rfl bb rfl rfl (a2g _ _ _ _ _ _ _) ?_;intro w7 r1 r2)
 have h7:=QC.mono _ _ _ _ a0l (QC.mono _ _ _ _ (a0i r2 (by omega) (by omega)) hu3);exact bodyPost_ret (a0e rfl rfl a0u r1 rfl) rfl ⟨ExtX.box (hE.trans (hE1.trans (hE2.trans hE3))) r2 (by omega),_,rfl,h7⟩
def c0d (X:Nat->Bool) (w:World) (l:List (List Rat)) (e:Ending) (w':World):Prop:=Ext w w'/\∃oo co,e= .returned (.slice oo l.length co)/\OL RC 1 X w.heap.size 24 w' oo co l
set_option maxRecDepth 100000 in
theorem b6P (X:Nat->Bool) (w:World) (u:Value) (l:List (List Rat)) (hX:HX X w) (hu:MV (mk X w) u l) (hl:l.length<=1000000) (hrl:∀r∈l,r.length<=1000000):Calls Tryz.prog 232 #[u] w (c0d X w l):=by
 obtain⟨ao,ca,rfl,hca,hsa⟩:=hu;have hha:=hsa.hd;have hrl':=hid hrl;clear hrl;go_enter Tryz.func232,Tryz.ntmps232
 go_wp2_with fail
 go_loopw [3,4] (fun o c wr=>∃(i:Nat) (oo:Option Addr) (co:Nat),c= .int .i64 i/\o= .slice oo i co/\i<=l.length/\OL RC 1 X w.heap.size 24 wr oo co (l.take i)/\Ext w wr) (fun _ c _=>l.length - (intOf c).toNat)
 case atStart=>exact⟨0,none,0,rfl,rfl,Nat.zero_le _,OL.nil _ _ _ _ _ _,ExtX.refl _⟩
 case round=>
  obtain⟨i,oo,co,rfl,rfl,hi,hO,hE⟩:=hrel;have hXr:HX X wr:=hX.ext hE;have hXu:HX (un X oo) wr:=hO.unX hXr;have hbase:=hE.size;by_cases hlt:i<l.length
  ·have hsr:Sl RV 1 (mk (un X oo) wr) ao l:=hsa.old RV.mono hE (fun j hj=>hO.ob_lt hj)
   have htk:=hid (a0N l i hlt);have hln:=hid (a1a hi);obtain⟨a1,c1,hX1,hc1,hcl1,hq1⟩:=hsr.row i hlt;have k00:=hc1.out noY wr (ExtX.refl _) rfl;have hlr:=hid (hrl'.out l[i] (List.getElem_mem _));go_wp2_with (with_reducible refine a0t a0r (by omega) (by assumption) ?_)
   refine(b0D (un X oo) wr _ l[i] hXu ⟨a1,c1,rfl,hcl1,hq1⟩ hlr.out).mono ?_;rintro e w6 ⟨hE6,u6,rfl,hu6⟩;obtain⟨a6,c6,rfl,hcl6,hs6⟩:=hu6;have hO6:=hO.ext0 RC.elem hE6;have hb6:=hE6.size;clear k00;go_wp2_with (at_builtin;refine a0v (l:=l.take i) a0r rfl RC.elem (by omega) (hXr.ext hE6) i hln.out rfl rfl hO6 (.slice a6 l[i].length c6) l[i] rfl ⟨a6,c6,rfl,hcl6,hs6⟩ (by omega) (by omega) ?_;intro oo2 co2 w7 hO7 hE7 hor)
   have hE8:=(hE.trans hE6).own hO6 (Nat.le_refl _) hE7;rw[htk.out]at hO7;go_roundw
   case rel=>exact⟨i+1,oo2,co2,by go_num,by go_num,by omega,hO7,hE8⟩
   case measure=>simp[intOf];omega
  ·have hil:i=l.length:=by omega
   subst hil;rw[List.take_length]at hO;go_wp2_with fail
   go_ret
   exact⟨hE,oo,co,rfl,hO⟩
end Go.Proofs.YtidbbddagfnfbaaGreat
namespace Go.Lin
def sm:Nat->(Nat->Rat)->Rat
 |0,_=>0
 |n+1,f=>sm n f+f n
theorem a0g {n:Nat} {f g:Nat->Rat} (h:∀i,i<n->f i=g i):sm n f=sm n g:=by
 induction n with
 |zero=>rfl
 |succ n ih=>unfold sm;rw[ih fun i hi=>h i (by omega),h n (by omega)]
theorem a1Q {n:Nat} {f:Nat->Rat} (h:∀i,i<n->f i=0):sm n f=0:=by
 induction n with
 |zero=>rfl
 |succ n ih=>unfold sm;rw[ih fun i hi=>h i (by omega),h n (by omega)];grind
theorem a5C (n:Nat) (f g:Nat->Rat):sm n (fun i=>f i+g i)=sm n f+sm n g:=by
 induction n with
 |zero=>unfold sm;grind
 |succ n ih=>unfold sm;rw[ih];grind
theorem a1w (n:Nat) (a:Rat) (f:Nat->Rat):sm n (fun i=>a*f i)=a*sm n f:=by
 induction n with
 |zero=>unfold sm;grind
 |succ n ih=>unfold sm;rw[ih];grind
theorem a2u (n m:Nat) (f:Nat->Nat->Rat):sm n (fun i=>sm m (fun j=>f i j))=sm m (fun j=>sm n (fun i=>f i j)):=by
 induction n with
 |zero=>simp only[sm];rw[a1Q];intros;rfl
 |succ n ih=>simp only[sm];rw[ih,a5C]
theorem a1x {n:Nat} {f:Nat->Rat} (k:Nat) (hk:k<n) (h:∀i,i<n->i≠k->f i=0):sm n f=f k:=by
 induction n with
 |zero=>omega
 |succ n ih=>
  unfold sm;by_cases e:k=n
  ·subst e;rw[a1Q fun i hi=>h i (by omega) (by omega)];grind
  ·rw[ih (by omega) fun i hi hik=>h i (by omega) hik,h n (by omega) (by omega)];grind
theorem a6V (n:Nat) (f g:Nat->Rat):sm n (fun i=>f i - g i)=sm n f - sm n g:=by
 induction n with
 |zero=>unfold sm;grind
 |succ n ih=>unfold sm;rw[ih];grind
theorem b6Q {n:Nat} {f g:Nat->Rat} (k:Nat) (hk:k<n) (h:∀i,i<n->i≠k->f i=g i) (h2:f k=g k):sm n f=sm n g:=
 a0g fun i hi=>by
             by_cases e:i=k
             ·subst e;exact h2
             ·exact h i hi e
theorem b5Q {n:Nat} {f g:Nat->Rat} (i k:Nat) (hi:i<n) (hk:k<n) (hik:i≠k) (h:∀r,r<n->r≠i->r≠k->f r=g r) (h2:f i+f k=g i+g k):sm n f=sm n g:=by
 have e:sm n (fun r=>f r - g r)=0:=by
  have e1:∀r,r<n->(fun r=>f r - g r) r=(fun r=>(if r=i then f i - g i else 0)+(if r=k then f k - g k else 0)) r:=by
   intro r hr
   show f r - g r=_
   by_cases a:r=i
   ·subst a;simp[hik];grind
   ·by_cases b:r=k
    ·subst b;simp[a];grind
    ·simp[a,b];rw[h r hr a b];grind
  rw[a0g e1,a5C,a1x i hi (fun r _ hr=>by simp[hr]),a1x k hk (fun r _ hr=>by simp[hr])];simp;grind
 rw[a6V]at e;grind
abbrev F2:=Nat->Nat->Rat
def Eqm (n c:Nat) (f g:F2):Prop:=∀i,i<n->∀j,j<c->f i j=g i j
def Nul (n c:Nat) (f:F2) (x:Nat->Rat):Prop:=∀i,i<n->sm c (fun j=>f i j*x j)=0
inductive RE (n c:Nat):F2->F2->Rat->Prop
 |same {f g:F2} (h:Eqm n c f g):RE n c f g 1
 |swap {f g:F2} (i k:Nat) (hi:i<n) (hk:k<n) (hik:i≠k) (h1:∀j,j<c->g i j=f k j) (h2:∀j,j<c->g k j=f i j) (h3:∀r,r<n->r≠i->r≠k->∀j,j<c->g r j=f r j):RE n c f g (-1)
 |scale {f g:F2} (i:Nat) (a:Rat) (hi:i<n) (ha:a≠0) (h1:∀j,j<c->g i j=a*f i j) (h3:∀r,r<n->r≠i->∀j,j<c->g r j=f r j):RE n c f g a
 |add {f g:F2} (i k:Nat) (a:Rat) (hi:i<n) (hk:k<n) (hik:i≠k) (h1:∀j,j<c->g i j=f i j+a*f k j) (h3:∀r,r<n->r≠i->∀j,j<c->g r j=f r j):RE n c f g 1
 |trans {f g h:F2} {a b:Rat} (h1:RE n c f g a) (h2:RE n c g h b):RE n c f h (a*b)
theorem RE.ne {n c:Nat} {f g:F2} {d:Rat} (h:RE n c f g d):d≠0:=by
 induction h with
 |same=>grind
 |swap=>grind
 |scale=>assumption
 |add=>grind
 |trans _ _ ih1 ih2=>intro e;rcases Rat.mul_eq_zero.1 e with h|h<;>contradiction
theorem RE.nul {n c:Nat} {f g:F2} {d:Rat} (h:RE n c f g d) (x:Nat->Rat):Nul n c f x↔Nul n c g x:=by
 induction h with
 |same h=>
  constructor
  ·intro hn i hi;rw[<-hn i hi];exact a0g fun j hj=>by rw[h i hi j hj]
  ·intro hn i hi;rw[<-hn i hi];exact a0g fun j hj=>by rw[h i hi j hj]
 |swap i k hi hk hik h1 h2 h3=>
  constructor
  ·intro hn r hr
   by_cases a:r=i
   ·subst a;rw[<-hn k hk];exact a0g fun j hj=>by rw[h1 j hj]
   ·by_cases b:r=k
    ·subst b;rw[<-hn i hi];exact a0g fun j hj=>by rw[h2 j hj]
    ·rw[<-hn r hr];exact a0g fun j hj=>by rw[h3 r hr a b j hj]
  ·intro hn r hr
   by_cases a:r=i
   ·subst a;rw[<-hn k hk];exact a0g fun j hj=>by rw[h2 j hj]
   ·by_cases b:r=k
    ·subst b;rw[<-hn i hi];exact a0g fun j hj=>by rw[h1 j hj]
    ·rw[<-hn r hr];exact a0g fun j hj=>by rw[h3 r hr a b j hj]
 |@scale f g i a hi ha h1 h3=>
  have key:sm c (fun j=>g i j*x j)=a*sm c (fun j=>f i j*x j):=by
   rw[<-a1w];exact a0g fun j hj=>by rw[h1 j hj];grind
  constructor
  ·intro hn r hr
   by_cases e:r=i
   ·subst e;rw[key,hn r hr];grind
   ·rw[<-hn r hr];exact a0g fun j hj=>by rw[h3 r hr e j hj]
  ·intro hn r hr
   by_cases e:r=i
   ·subst e;have:=hn r hr;rw[key]at this;rcases Rat.mul_eq_zero.1 this with h|h
    ·contradiction
    ·exact h
   ·rw[<-hn r hr];exact a0g fun j hj=>by rw[h3 r hr e j hj]
 |@add f g i k a hi hk hik h1 h3=>
  have key:sm c (fun j=>g i j*x j)=sm c (fun j=>f i j*x j)+a*sm c (fun j=>f k j*x j):=by
   rw[<-a1w,<-a5C];exact a0g fun j hj=>by rw[h1 j hj];grind
  constructor
  ·intro hn r hr
   by_cases e:r=i
   ·subst e;rw[key,hn r hr,hn k hk];grind
   ·rw[<-hn r hr];exact a0g fun j hj=>by rw[h3 r hr e j hj]
  ·intro hn r hr
   by_cases e:r=i
   ·subst e
    have h4:=hn r hr;rw[key]at h4;have h5:=hn k hk;rw[show sm c (fun j=>g k j*x j)=sm c (fun j=>f k j*x j)from a0g fun j hj=>by rw[h3 k hk (by omega) j hj]]at h5;rw[h5]at h4;grind
   ·rw[<-hn r hr];exact a0g fun j hj=>by rw[h3 r hr e j hj]
 |trans _ _ ih1 ih2=>exact ih1.trans ih2
def cmb (n:Nat) (f:F2) (y:Nat->Rat) (j:Nat):Rat:=sm n fun i=>y i*f i j
def LI (n c:Nat) (f:F2):Prop:=∀y:Nat->Rat,(∀j,j<c->cmb n f y j=0)->∀i,i<n->y i=0
theorem RE.li {n c:Nat} {f g:F2} {d:Rat} (h:RE n c f g d) (hf:LI n c f):LI n c g:=by
 induction h with
 |same h=>
  intro y hy;exact hf y fun j hj=>by rw[<-hy j hj];exact a0g fun i hi=>by rw[h i hi j hj]
 |@swap f g i k hi hk hik h1 h2 h3=>
  intro y hy;have:=hf (fun r=>if r=i then y k else if r=k then y i else y r) fun j hj=>by
   rw[<-hy j hj];refine b5Q i k hi hk hik (fun r hr a b=>?_) ?_
   ·simp[a,b,h3 r hr a b j hj]
   ·simp[hik.symm,h1 j hj,h2 j hj];grind
  intro r hr;by_cases a:r=i
  ·subst a;simpa[hik.symm]using this k hk
  ·by_cases b:r=k
   ·subst b;simpa using this i hi
   ·simpa[a,b]using this r hr
 |@scale f g i a hi ha h1 h3=>
  intro y hy;have:=hf (fun r=>if r=i then a*y i else y r) fun j hj=>by
   rw[<-hy j hj];refine b6Q i hi (fun r hr e=>?_) ?_
   ·simp[e,h3 r hr e j hj]
   ·simp[h1 j hj];grind
  intro r hr;by_cases e:r=i
  ·subst e
   have h4:=this r hr;simp only[if_true]at h4;rcases Rat.mul_eq_zero.1 h4 with h4|h4
   ·contradiction
   ·exact h4
  ·simpa[e]using this r hr
 |@add f g i k a hi hk hik h1 h3=>
  intro y hy;have:=hf (fun r=>if r=k then y k+a*y i else y r) fun j hj=>by
   rw[<-hy j hj];refine b5Q i k hi hk hik (fun r hr a b=>?_) ?_
   ·simp[b,h3 r hr a j hj]
   ·simp[hik,h1 j hj,h3 k hk hik.symm j hj];grind
  intro r hr;have hyi:y i=0:=by simpa[hik]using this i hi
  by_cases e:r=k
  ·subst e
   have h4:=this r hr;simp[hyi]at h4;grind
  ·simpa[e]using this r hr
 |trans _ _ ih1 ih2=>exact ih2 (ih1 hf)
structure Rref (n c:Nat) (f:F2) (p:List Nat):Prop where
 le:p.length<=n
 lt:∀i (hi:i<p.length),p[i]<c
 inc:∀i k (hik:i<k) (hk:k<p.length),p[i]<p[k]
 left:∀i (hi:i<p.length),∀j,j<p[i]->f i j=0
 one:∀i (hi:i<p.length),f i p[i]=1
 zero:∀k (hk:k<p.length),∀i,i<n->i≠k->f i p[k]=0
 below:∀i,p.length<=i->i<n->∀j,j<c->f i j=0
def nv (f:F2) (p:List Nat) (j:Nat):Nat->Rat:=fun x=>if x=j then 1 else match p.findIdx? (· ==x)with|some i=> - f i j|none=>0
theorem Rref.idx {n c:Nat} {f:F2} {p:List Nat} (h:Rref n c f p) (i:Nat) (hi:i<p.length):p.findIdx? (· ==p[i])=some i:=by
 rw[List.findIdx?_eq_some_iff_getElem];refine⟨hi,by simp,fun j hj=>?_⟩;have:=h.inc j i hj hi;simp;omega
theorem a5P {p:List Nat} {x:Nat} (h:x∉p):p.findIdx? (· ==x)=none:=by
 rw[List.findIdx?_eq_none_iff];intro y hy;simp;rintro rfl;exact h hy
theorem Rref.nv_piv {n c:Nat} {f:F2} {p:List Nat} (h:Rref n c f p) {j:Nat} (hj:j∉p) (i:Nat) (hi:i<p.length):nv f p j p[i]= - f i j:=by
 unfold nv;rw[if_neg (by rintro e;exact hj (e▸List.getElem_mem _)),h.idx i hi]
theorem a3I {f:F2} {p:List Nat} (j:Nat):nv f p j j=1:=by simp[nv]
theorem a6c {f:F2} {p:List Nat} {j x:Nat} (hx:x∉p) (hj:x≠j):nv f p j x=0:=by
 unfold nv;rw[if_neg hj,a5P hx]
theorem Rref.row {n c:Nat} {f:F2} {p:List Nat} (h:Rref n c f p) (i:Nat) (hi:i<p.length) (x:Nat->Rat):sm c (fun j=>f i j*x j)=x p[i]+sm c (fun j=>if j∈p then 0 else f i j*x j):=by
 have e:sm c (fun j=>f i j*x j)=sm c (fun j=>(if j=p[i]then x p[i]else 0)+(if j∈p then 0 else f i j*x j)):=by
  refine a0g fun j hj=>?_;by_cases hp:j∈p
  ·obtain⟨k,hk,rfl⟩:=List.getElem_of_mem hp
   by_cases hki:i=k
   ·subst hki;simp[h.one i hi];grind
   ·have hne:p[k]≠p[i]:=by
     rcases Nat.lt_or_gt_of_ne hki with a|a
     ·have:=h.inc i k a hk;omega
     ·have:=h.inc k i a hi;omega
    simp[hne,h.zero k hk i (Nat.lt_of_lt_of_le hi h.le) hki];grind
  ·have hne:j≠p[i]:=by rintro rfl;exact hp (List.getElem_mem _)
   simp[hp,hne];grind
 rw[e,a5C,a1x p[i] (h.lt i hi) (fun j _ hj=>by simp[hj])];simp
theorem Rref.nv_nul {n c:Nat} {f:F2} {p:List Nat} (h:Rref n c f p) {j:Nat} (hj:j∉p) (hjc:j<c):Nul n c f (nv f p j):=by
 intro i hi;by_cases hip:i<p.length
 ·rw[h.row i hip,h.nv_piv hj i hip,a1x j hjc]
  ·simp[hj,a3I];grind
  ·intro k _ hkj
   by_cases hp:k∈p
   ·simp[hp]
   ·simp[hp,a6c hp hkj]
 ·exact a1Q fun k hk=>by rw[h.below i (by omega) hi k hk];grind
theorem Rref.nv_supp {n c:Nat} {f:F2} {p:List Nat} (h:Rref n c f p) {j:Nat} (hj:j∉p) {x:Nat} (hx:j<x):nv f p j x=0:=by
 by_cases hp:x∈p
 ·obtain⟨k,hk,rfl⟩:=List.getElem_of_mem hp
  rw[h.nv_piv hj k hk,h.left k hk j hx];grind
 ·exact a6c hp (by omega)
theorem Rref.sub {n c:Nat} {f g:F2} {p q:List Nat} (hf:Rref n c f p) (hg:Rref n c g q) (hn:∀x,Nul n c f x->Nul n c g x) (j:Nat) (hj:j∈q):j∈p:=by
 refine Classical.byContradiction fun hjp=>?_;obtain⟨k,hk,rfl⟩:=List.getElem_of_mem hj;have h1:=hn _ (hf.nv_nul hjp (hg.lt k hk)) k (Nat.lt_of_lt_of_le hk hg.le);rw[a1x q[k] (hg.lt k hk)]at h1
 ·rw[hg.one k hk,a3I]at h1;grind
 ·intro x _ hx
  rcases Nat.lt_or_gt_of_ne hx with a|a
  ·rw[hg.left k hk x a];grind
  ·rw[hf.nv_supp hjp a];grind
theorem a9R:∀(p q:List Nat),p.Pairwise (· < ·)->q.Pairwise (· < ·)->(∀x,x∈p↔x∈q)->p=q
 | [],[],_,_,_=>rfl
 | [],b::q,_,_,h=>by have:=(h b).2 (by simp);simp at this
 |a::p,[],_,_,h=>by have:=(h a).1 (by simp);simp at this
 |a::p,b::q,hp,hq,h=>by
  rw[List.pairwise_cons]at hp hq;have hab:a=b:=by
   have h1:=(h a).1 (by simp);have h2:=(h b).2 (by simp);simp at h1 h2;rcases h1 with h1|h1
   ·exact h1
   ·rcases h2 with h2|h2
    ·exact h2.symm
    ·have:=hq.1 a h1;have:=hp.1 b h2;omega
  subst hab;rw[a9R p q hp.2 hq.2];intro x;have h3:=h x;simp at h3;constructor
  ·intro hx
   have:=hp.1 x hx;rcases h3.1 (.inr hx)with e|e
   ·omega
   ·exact e
  ·intro hx
   have:=hq.1 x hx;rcases h3.2 (.inr hx)with e|e
   ·omega
   ·exact e
theorem Rref.pw {n c:Nat} {f:F2} {p:List Nat} (h:Rref n c f p):p.Pairwise (· < ·):=by
 rw[List.pairwise_iff_getElem];intro i j hi hj hij;exact h.inc i j hij hj
theorem Rref.unique {n c:Nat} {f g:F2} {p q:List Nat} (hf:Rref n c f p) (hg:Rref n c g q) (hn:∀x,Nul n c f x↔Nul n c g x):p=q/\Eqm n c f g:=by
 have hpq:p=q:=a9R p q hf.pw hg.pw fun x=>⟨hg.sub hf (fun x h=>(hn x).2 h) x,hf.sub hg (fun x h=>(hn x).1 h) x⟩;subst hpq;refine⟨rfl,fun i hi j hj=>?_⟩;by_cases hip:i<p.length
 ·by_cases hjp:j∈p
  ·obtain⟨k,hk,rfl⟩:=List.getElem_of_mem hjp
   by_cases e:i=k
   ·subst e;rw[hf.one i hip,hg.one i hip]
   ·rw[hf.zero k hk i hi e,hg.zero k hk i hi e]
  ·have h1:=(hn _).1 (hf.nv_nul hjp hj) i hi
   rw[hg.row i hip,hf.nv_piv hjp i hip,a1x j hj]at h1
   ·simp[hjp,a3I]at h1;grind
   ·intro k _ hkj
    by_cases hp:k∈p
    ·simp[hp]
    ·simp[hp,a6c hp hkj]
 ·rw[hf.below i (by omega) hi j hj,hg.below i (by omega) hi j hj]
theorem RE.cast {n c:Nat} {f g:F2} {a b:Rat} (h:RE n c f g a) (e:a=b):RE n c f g b:=e▸h
theorem RE.then_ {n c:Nat} {f g h:F2} {a b d:Rat} (h1:RE n c f g a) (h2:RE n c g h b) (e:a*b=d):RE n c f h d:=e▸h1.trans h2
theorem RE.addmany {n c:Nat} {f g:F2} (k:Nat) (hk:k<n) (a:Nat->Rat) (h1:∀i,i<n->i≠k->∀j,j<c->g i j=f i j+a i*f k j) (h2:∀j,j<c->g k j=f k j):RE n c f g 1:=by
 have key:∀t,t<=n->RE n c f (fun i j=>if i<t then g i j else f i j) 1:=by
  intro t
  induction t with
  |zero=>intro _;exact .same fun i _ j _=>by simp
  |succ t ih=>
   intro ht;refine(ih (by omega)).then_ (b:=1) ?_ (by grind);by_cases e:t=k
   ·subst e
    refine .same fun i hi j hj=>?_;by_cases a:i<t
    ·simp[a,show i<t+1 by omega]
    ·by_cases b:i=t
     ·subst b;simp[h2 j hj]
     ·simp[a,show¬i<t+1 by omega]
   ·refine .add t k (a t) (by omega) hk e (fun j hj=>?_) (fun r hr hrt j hj=>?_)
    ·have h3:=h1 t (by omega) e j hj
     by_cases b:k<t
     ·simp[b,h3,h2 j hj]
     ·simp[b,h3]
    ·by_cases a:r<t
     ·simp[a,show r<t+1 by omega]
     ·simp[a,show¬r<t+1 by omega]
 refine(key n (Nat.le_refl _)).then_ (.same fun i hi j hj=>?_) (by grind);simp[hi]
structure Ech (n k:Nat) (f:F2) (p:List Nat):Prop where
 le:p.length<=n
 lt:∀i (hi:i<p.length),p[i]<k
 inc:∀i k (hik:i<k) (hk:k<p.length),p[i]<p[k]
 left:∀i (hi:i<p.length),∀j,j<p[i]->f i j=0
 piv:∀i (hi:i<p.length),f i p[i]≠0
 below:∀i,p.length<=i->i<n->∀j,j<k->f i j=0
theorem Ech.nil (n:Nat) (f:F2):Ech n 0 f []:=⟨by simp,by simp,by simp,by simp,by simp,by intros;omega⟩
theorem Ech.skip {n k:Nat} {f:F2} {p:List Nat} (h:Ech n k f p) (hz:∀i,p.length<=i->i<n->f i k=0):Ech n (k+1) f p:=
 ⟨h.le,fun i hi=>Nat.lt_succ_of_lt (h.lt i hi),h.inc,h.left,h.piv,fun i hi hn j hj=>by
  by_cases e:j=k
  ·subst e;exact hz i hi hn
  ·exact h.below i hi hn j (by omega)⟩
theorem b1G {p:List Nat} {k:Nat} (h:∀i (hi:i<p.length),p[i]<k) (i:Nat) (hi:i<(p++[k]).length):(p++[k])[i]<k+1:=by
 rw[List.getElem_append];split
 ·have:=h i (by assumption);omega
 ·simp
theorem a9S {p:List Nat} {c:Nat} (h:∀i (hi:i<p.length),p[i]<c) (h2:∀i k (hik:i<k) (hk:k<p.length),p[i]<p[k]) (i k:Nat) (hik:i<k) (hk:k<(p++[c]).length):(p++[c])[i]<(p++[c])[k]:=by
 simp at hk;rw[List.getElem_append,List.getElem_append];by_cases a:k<p.length
 ·simp[a,show i<p.length by omega];exact h2 i k hik a
 ·simp[a,show i<p.length by omega];exact h i (by omega)
theorem Ech.push {n k:Nat} {f g:F2} {p:List Nat} (h:Ech n k f p) (hp:p.length<n) (h0:∀i,i<p.length->∀j,g i j=f i j)
  (hz:∀i,p.length<=i->i<n->∀j,j<k->g i j=0) (hne:g p.length k≠0) (hb:∀i,p.length<i->i<n->g i k=0):Ech n (k+1) g (p++[k]):=by
 refine⟨by simp;omega,b1G h.lt,a9S h.lt h.inc,fun i hi j hj=>?_,fun i hi=>?_,fun i hi hn j hj=>?_⟩
 ·simp at hi
  rw[List.getElem_append]at hj;by_cases a:i<p.length
  ·simp[a]at hj;rw[h0 i a];exact h.left i a j hj
  ·simp[a]at hj;exact hz i (by omega) (by omega) j hj
 ·simp at hi
  rw[List.getElem_append];by_cases a:i<p.length
  ·simp only[a,dite_true];rw[h0 i a];exact h.piv i a
  ·obtain rfl:i=p.length:=by omega
   simpa using hne
 ·simp at hi
  by_cases e:j=k
  ·subst e;exact hb i (by omega) hn
  ·exact hz i (by omega) hn j (by omega)
structure Red (n t:Nat) (f:F2) (p:List Nat):Prop where
 one:∀i (hi:i<p.length),i<t->f i p[i]=1
 zero:∀k (hk:k<p.length),k<t->∀i,i<n->i≠k->f i p[k]=0
theorem Ech.rref {n c:Nat} {f:F2} {p:List Nat} (h:Ech n c f p) (hr:Red n p.length f p):Rref n c f p:=
 ⟨h.le,h.lt,h.inc,h.left,fun i hi=>hr.one i hi hi,fun k hk=>hr.zero k hk hk,h.below⟩
theorem Ech.under {n c:Nat} {f:F2} {p:List Nat} (h:Ech n c f p) (k:Nat) (hk:k<p.length) (i:Nat) (hi:i<n) (hki:k<i):f i p[k]=0:=by
 by_cases a:i<p.length
 ·exact h.left i a _ (h.inc k i hki a)
 ·exact h.below i (by omega) hi _ (h.lt k hk)
theorem Red.step {n c t:Nat} {f g:F2} {p:List Nat} (h:Ech n c f p) (hr:Red n t f p) (ht:t<p.length)
  (h1:∀j,g t j=f t j/f t p[t]) (h2:∀i,i<t->∀j,g i j=f i j - f i p[t]*g t j) (h3:∀i,t<i->∀j,g i j=f i j):Ech n c g p/\Red n (t+1) g p:=by
 have hpv:=h.piv t ht;have hz:∀j,j<p[t]->g t j=0:=fun j hj=>by rw[h1,h.left t ht j hj];grind
 have hone:g t p[t]=1:=by rw[h1];grind
 refine⟨⟨h.le,h.lt,h.inc,fun i hi j hj=>?_,fun i hi=>?_,fun i hi hn j hj=>?_⟩,⟨fun i hi hit=>?_,fun k hk hkt i hi hik=>?_⟩⟩
 ·rcases Nat.lt_trichotomy i t with a|a|a
  ·rw[h2 i a,h.left i hi j hj,hz j (by have:=h.inc i t a ht;omega)];grind
  ·subst a;exact hz j hj
  ·rw[h3 i a];exact h.left i hi j hj
 ·rcases Nat.lt_trichotomy i t with a|a|a
  ·rw[h2 i a,hz _ (h.inc i t a ht)];have:=h.piv i hi;grind
  ·subst a;rw[hone];grind
  ·rw[h3 i a];exact h.piv i hi
 ·rw[h3 i (by omega)];exact h.below i hi hn j hj
 ·rcases Nat.lt_trichotomy i t with a|a|a
  ·rw[h2 i a,hz _ (h.inc i t a ht),hr.one i hi a];grind
  ·subst a;exact hone
  ·omega
 ·rcases Nat.lt_trichotomy k t with b|b|b
  ·have hzk:g t p[k]=0:=hz _ (h.inc k t b ht)
   rcases Nat.lt_trichotomy i t with a|a|a
   ·rw[h2 i a,hzk,hr.zero k hk b i hi hik];grind
   ·subst a;exact hzk
   ·rw[h3 i a];exact hr.zero k hk b i hi hik
  ·subst b
   rcases Nat.lt_trichotomy i k with a|a|a
   ·rw[h2 i a,hone];grind
   ·omega
   ·rw[h3 i a];exact h.under k hk i hi a
  ·omega
theorem Rref.skip {n k:Nat} {f:F2} {p:List Nat} (h:Rref n k f p) (hz:∀i,p.length<=i->i<n->f i k=0):Rref n (k+1) f p:=
 ⟨h.le,fun i hi=>Nat.lt_succ_of_lt (h.lt i hi),h.inc,h.left,h.one,h.zero,fun i hi hn j hj=>by
  by_cases e:j=k
  ·subst e;exact hz i hi hn
  ·exact h.below i hi hn j (by omega)⟩
theorem Rref.nil (n:Nat) (f:F2):Rref n 0 f []:=⟨by simp,by simp,by simp,by simp,by simp,by simp,by intros;omega⟩
theorem Rref.push {n k:Nat} {f g:F2} {p:List Nat} (h:Rref n k f p) (hp:p.length<n) (hne:f p.length k≠0)
  (h1:∀j,g p.length j=f p.length j*(1/f p.length k)) (h2:∀i,i<n->i≠p.length->∀j,g i j=f i j+g p.length j* - f i k):Rref n (k+1) g (p++[k]):=by
 have hz:∀j,j<k->g p.length j=0:=fun j hj=>by rw[h1,h.below _ (Nat.le_refl _) hp j hj];grind
 have hone:g p.length k=1:=by rw[h1];grind
 have hk0:∀i,i<n->i≠p.length->g i k=0:=fun i hi e=>by rw[h2 i hi e,hone];grind
 have hs:∀i,i<n->∀j,j<k->g i j=f i j:=fun i hi j hj=>by
  by_cases e:i=p.length
  ·subst e;rw[hz j hj,h.below _ (Nat.le_refl _) hp j hj]
  ·rw[h2 i hi e,hz j hj];grind
 refine⟨by simp;omega,b1G h.lt,a9S h.lt h.inc,fun i hi j hj=>?_,fun i hi=>?_,fun q hq i hi hiq=>?_,fun i hi hn j hj=>?_⟩
 ·simp at hi
  rw[List.getElem_append]at hj;by_cases a:i<p.length
  ·simp[a]at hj;rw[hs i (by omega) j (by have:=h.lt i a;omega)];exact h.left i a j hj
  ·simp[a]at hj;obtain rfl:i=p.length:=by omega
   exact hz j hj
 ·simp at hi
  rw[List.getElem_append];by_cases a:i<p.length
  ·simp only[a,dite_true];rw[hs i (by omega) _ (h.lt i a)];exact h.one i a
  ·obtain rfl:i=p.length:=by omega
   simpa using hone
 ·simp at hq
  rw[List.getElem_append];by_cases a:q<p.length
  ·simp only[a,dite_true];rw[hs i hi _ (h.lt q a)];exact h.zero q a i hi hiq
  ·obtain rfl:q=p.length:=by omega
   simpa using hk0 i hi hiq
 ·simp at hi
  by_cases e:j=k
  ·subst e;exact hk0 i hn (by omega)
  ·rw[hs i hn j (by omega)];exact h.below i (by omega) hn j (by omega)
abbrev Mat:=List (List Rat)
def ent (m:Mat):F2:=fun i j=>(m.getD i []).getD j 0
def Shp (n c:Nat) (m:Mat):Prop:=m.length=n/\∀r∈m,r.length=c
theorem Shp.row {n c:Nat} {m:Mat} (h:Shp n c m) {i:Nat} (hi:i<n):(m.getD i []).length=c:=by
 have:i<m.length:=by rw[h.1];exact hi
 simp[List.getD_eq_getElem?_getD,this,h.2]
theorem a1L {n c:Nat} {m:Mat} (h:Shp n c m) {i j:Nat} (hij:n<=i\/c<=j):ent m i j=0:=by
 unfold ent;by_cases hi:i<n
 ·have:=h.row hi
  rw[List.getD_eq_getElem?_getD,List.getElem?_eq_none (by omega)];rfl
 ·have:=h.1
  rw[List.getD_eq_getElem?_getD (l:=m),List.getElem?_eq_none (by omega)];simp
theorem Shp.ext {n c:Nat} {m m':Mat} (h:Shp n c m) (h':Shp n c m') (he:Eqm n c (ent m) (ent m')):m=m':=by
 refine List.ext_getElem (h.1.trans h'.1.symm) fun i h1 h2=>?_;have hl1:=h.2 _ (List.getElem_mem h1);have hl2:=h'.2 _ (List.getElem_mem h2);refine List.ext_getElem (hl1.trans hl2.symm) fun j h3 h4=>?_;have:=he i (by rw[<-h.1];exact h1) j (by omega);simpa[ent,List.getD_eq_getElem?_getD,h1,h2,h3,h4]using this
theorem Shp.set {n c:Nat} {m:Mat} (h:Shp n c m) (i:Nat) {r:List Rat} (hr:r.length=c):Shp n c (m.set i r):=by
 refine⟨by simp[h.1],fun x hx=>?_⟩;rcases List.mem_or_eq_of_mem_set hx with a|a
 ·exact h.2 _ a
 ·rw[a];exact hr
theorem a7w {m:Mat} {i:Nat} {r:List Rat} (hi:i<m.length) (k j:Nat):ent (m.set i r) k j=if k=i then r.getD j 0 else ent m k j:=by
 unfold ent;simp only[List.getD_eq_getElem?_getD,List.getElem?_set];by_cases e:k=i
 ·subst e;simp[hi]
 ·simp[e,Ne.symm e]
def rows (m:Mat) (f:Nat->List Rat->List Rat):Mat:=m.mapIdx f
theorem Shp.rows {n c:Nat} {m:Mat} (h:Shp n c m) {f:Nat->List Rat->List Rat} (hf:∀i,i<n->∀r:List Rat,r.length=c->(f i r).length=c):Shp n c (rows m f):=by
 refine⟨by simp[Lin.rows,h.1],fun x hx=>?_⟩;obtain⟨i,hi,rfl⟩:=List.getElem_of_mem hx;simp only[Lin.rows,List.length_mapIdx,List.getElem_mapIdx]at hi |-;exact hf i (by rw[<-h.1];exact hi) _ (h.2 _ (List.getElem_mem _))
theorem a7x {m:Mat} {f:Nat->List Rat->List Rat} {i:Nat} (hi:i<m.length) (j:Nat):ent (rows m f) i j=(f i (m.getD i [])).getD j 0:=by
 simp[ent,rows,List.getD_eq_getElem?_getD,hi]
def a1d (m:Mat) (i k:Nat):Mat:=(m.set i (m.getD k [])).set k (m.getD i [])
theorem Shp.swap {n c:Nat} {m:Mat} (h:Shp n c m) {i k:Nat} (hi:i<n) (hk:k<n):Shp n c (a1d m i k):=(h.set i (h.row hk)).set k (h.row hi)
theorem a3n {n c:Nat} {m:Mat} (h:Shp n c m) {i k:Nat} (hi:i<n) (hk:k<n) (r j:Nat):ent (a1d m i k) r j=if r=k then ent m i j else if r=i then ent m k j else ent m r j:=by
 unfold a1d;rw[a7w (by simp[h.1,hk]),a7w (by simp[h.1,hi])];rfl
theorem a5l (m:Mat) (i:Nat) (hi:i<m.length):a1d m i i=m:=by
 unfold a1d;simp[List.getD_eq_getElem?_getD,hi]
theorem b1H {n c:Nat} {m:Mat} (h:Shp n c m) {i k:Nat} (hi:i<n) (hk:k<n) (hik:i≠k):RE n c (ent m) (ent (a1d m i k)) (-1):=
 .swap i k hi hk hik (fun j _=>by rw[a3n h hi hk];simp[hik]) (fun j _=>by rw[a3n h hi hk];simp) (fun r _ a b j _=>by rw[a3n h hi hk];simp[a,b])
def a2X (row piv:List Rat) (col:Nat):List Rat:=List.zipWith (fun a x=>a - (row.getD col 0/piv.getD col 0)*x) row piv
theorem a3J (row piv:List Rat) (col:Nat) (h:row.length=piv.length):(a2X row piv col).length=piv.length:=by simp[a2X,h]
theorem a7Y (row piv:List Rat) (col j:Nat) (h:row.length=piv.length):(a2X row piv col).getD j 0=row.getD j 0 - (row.getD col 0/piv.getD col 0)*piv.getD j 0:=by
 unfold a2X;simp only[List.getD_eq_getElem?_getD,List.getElem?_zipWith];by_cases hj:j<row.length
 ·simp[hj,show j<piv.length by omega]
 ·simp[show¬j<row.length by omega,show¬j<piv.length by omega];grind
theorem b0E (row piv:List Rat) (col:Nat) (h:row.length=piv.length) (h0:row.getD col 0/piv.getD col 0=0):a2X row piv col=row:=by
 refine List.ext_getElem (by simp[a2X,h]) fun i h1 h2=>?_;simp only[a2X,List.getElem_zipWith,h0];grind
abbrev St:=Mat×List Nat×Bool
def clear (m:Mat) (t col:Nat) (s:Nat):Mat:=rows m fun i r=>if t<i/\i<t+1+s then a2X r (m.getD t []) col else r
noncomputable def b1I (m:Mat) (t col:Nat):Option Nat:=(m.drop t).findIdx? fun r=>decide (r.getD col 0≠0)
noncomputable def a6d (s:St) (col:Nat):St:=
 if s.2.1.length=s.1.length then s else
 match b1I s.1 s.2.1.length col with
 |none=>s
 |some k=>(clear (a1d s.1 s.2.1.length (s.2.1.length+k)) s.2.1.length col s.1.length,s.2.1++[col],s.2.2 !=decide (k≠0))
noncomputable def eN (m:Mat):Nat->St
 |0=>(m,[],false)
 |k+1=>a6d (eN m k) k
theorem Shp.clear {n c:Nat} {m:Mat} (h:Shp n c m) {t:Nat} (ht:t<n) (col s:Nat):Shp n c (clear m t col s):=
 h.rows fun i hi r hr=>by
  split
  ·rw[a3J _ _ _ (by rw[hr,h.row ht]),h.row ht]
  ·exact hr
theorem a4J {n c:Nat} {m:Mat} (h:Shp n c m) {t:Nat} (ht:t<n) (col s i j:Nat):ent (clear m t col s) i j=if t<i/\i<t+1+s/\i<n then ent m i j - (ent m i col/ent m t col)*ent m t j else ent m i j:=by
 by_cases hi:i<n
 ·unfold Lin.clear
  rw[a7x (by rw[h.1];exact hi)];by_cases a:t<i/\i<t+1+s
  ·simp only[a,and_self,if_true,hi]
   rw[a7Y _ _ _ _ (by rw[h.row hi,h.row ht])];rfl
  ·rw[if_neg a,if_neg (fun b=>a ⟨b.1,b.2.1⟩)];rfl
 ·rw[a1L (h.clear ht col s) (.inl (by omega)),if_neg (by omega),a1L h (.inl (by omega))]
theorem b3W {n c:Nat} {m:Mat} (h:Shp n c m) {t:Nat} (ht:t<n) (col s:Nat):RE n c (ent m) (ent (clear m t col s)) 1:=
 .addmany t ht (fun i=>if t<i/\i<t+1+s/\i<n then - (ent m i col/ent m t col)else 0)
  (fun i hi e j hj=>by rw[a4J h ht];split<;>grind) (fun j hj=>by rw[a4J h ht];simp)
theorem a7Z {m:Mat} {t col:Nat} (h:b1I m t col=none) (i:Nat) (hi:t<=i):ent m i col=0:=by
 unfold b1I at h;rw[List.findIdx?_eq_none_iff]at h;by_cases a:i<m.length
 ·have:=h (m[i]) (by rw[List.mem_drop_iff_getElem];exact⟨i - t,by omega,by congr 1;omega⟩)
  unfold ent;simp only[List.getD_eq_getElem?_getD,a,getElem?_pos,Option.getD_some]at this |-;simpa using this
 ·unfold ent;rw[List.getD_eq_getElem?_getD (l:=m),List.getElem?_eq_none (by omega)];simp
theorem a3K {m:Mat} {t col k:Nat} (h:b1I m t col=some k):t+k<m.length/\ent m (t+k) col≠0:=by
 unfold b1I at h;rw[List.findIdx?_eq_some_iff_getElem]at h;obtain⟨h1,h2,_⟩:=h;simp at h1;refine⟨by omega,?_⟩;unfold ent;simp only[List.getElem_drop]at h2;have a:t+k<m.length:=by omega
 simp only[List.getD_eq_getElem?_getD,a,getElem?_pos,Option.getD_some]at h2 |-;simpa using h2
structure EOk (n c k:Nat) (m:Mat) (s:St):Prop where
 shp:Shp n c s.1
 ech:Ech n k (ent s.1) s.2.1
 re:RE n c (ent m) (ent s.1) (if s.2.2 then -1 else 1)
theorem EOk.zero {n c:Nat} {m:Mat} (h:Shp n c m):EOk n c 0 m (m,[],false):=⟨h,Ech.nil _ _, .same fun _ _ _ _=>rfl⟩
theorem EOk.step {n c k:Nat} {m:Mat} {s:St} (h:EOk n c k m s):EOk n c (k+1) m (a6d s k):=by
 obtain⟨M,p,odd⟩:=s;have hs:Shp n c M:=h.shp;have he:Ech n k (ent M) p:=h.ech;have hr:RE n c (ent m) (ent M) (if odd then -1 else 1):=h.re;have hl:=hs.1;unfold a6d
 dsimp only
 split
 ·rename_i e
  exact⟨hs,he.skip fun i hi hn=>by omega,hr⟩
 ·rename_i e
  split
  ·rename_i hz
   exact⟨hs,he.skip fun i hi _=>a7Z hz i hi,hr⟩
  ·rename_i q hz
   obtain⟨h1,h2⟩:=a3K hz;have hp:p.length<n:=by have:=he.le;omega
   have hpq:p.length+q<n:=by omega
   have hs2:=hs.swap hp hpq;have hes:=fun i j=>a3n hs hp hpq i j;have hec:=fun i j=>a4J hs2 hp k M.length i j;have hpiv:ent (a1d M p.length (p.length+q)) p.length k≠0:=by
    rw[hes];by_cases b:q=0
    ·subst b;simpa using h2
    ·simp[b];exact h2
   refine⟨hs2.clear hp _ _,he.push hp (fun i hi j=>?_) (fun i hi hn j hj=>?_) ?_ (fun i hi hn=>?_),?_⟩
   ·rw[hec,if_neg (by omega),hes,if_neg (by omega),if_neg (by omega)]
   ·have hz:∀i,p.length<=i->i<n->ent (a1d M p.length (p.length+q)) i j=0:=fun i hi hn=>by
     rw[hes];split
     ·exact he.below _ (by omega) hp j hj
     ·split
      ·exact he.below _ (by omega) hpq j hj
      ·exact he.below _ hi hn j hj
    rw[hec];split
    ·rw[hz i hi hn,hz p.length (Nat.le_refl _) hp];grind
    ·exact hz i hi hn
   ·rw[hec,if_neg (by omega)];exact hpiv
   ·rw[hec,if_pos ⟨hi,by omega,hn⟩];grind
   ·have hc:=b3W hs2 hp k M.length
    by_cases b:q=0
    ·subst b
     rw[Nat.add_zero,a5l M _ (by omega)]at hc |-;exact hr.then_ hc (by cases odd<;>simp)
    ·exact hr.then_ ((b1H hs hp hpq (by omega)).then_ hc rfl) (by cases odd<;>simp[b];grind)
theorem a5L {n c:Nat} {m:Mat} (h:Shp n c m) (k:Nat):EOk n c k m (eN m k):=by
 induction k with
 |zero=>exact EOk.zero h
 |succ k ih=>exact ih.step
theorem b6R (m:Mat) (k:Nat) (h:(eN m k).2.1.length=(eN m k).1.length) (k':Nat) (hk:k<=k'):eN m k'=eN m k:=by
 induction k' with
 |zero=>
      have:k=0:=by omega
      subst this;rfl
 |succ k' ih=>
  by_cases e:k=k'+1
  ·subst e;rfl
  ·have:=ih (by omega)
   show a6d (eN m k') k'=_
   rw[this];unfold a6d;rw[if_pos h]
def divL (m:Mat) (i col:Nat):Mat:=m.set i ((m.getD i []).map (· /ent m i col))
def above (m:Mat) (i col s:Nat):Mat:=rows m fun k r=>if k<i/\k<s then a2X r (m.getD i []) col else r
def dStep (m:Mat) (i col:Nat):Mat:=above (divL m i col) i col i
theorem a8a (r:List Rat) (a:Rat) (j:Nat):(r.map (· /a)).getD j 0=r.getD j 0/a:=by
 simp only[List.getD_eq_getElem?_getD,List.getElem?_map];cases r[j]? with
 |none=>simp;grind
 |some x=>simp
theorem Shp.divL {n c:Nat} {m:Mat} (h:Shp n c m) {i:Nat} (hi:i<n) (col:Nat):Shp n c (divL m i col):=h.set i (by rw[List.length_map];exact h.row hi)
theorem a3o {n c:Nat} {m:Mat} (h:Shp n c m) {i:Nat} (hi:i<n) (col k j:Nat):ent (divL m i col) k j=if k=i then ent m i j/ent m i col else ent m k j:=by
 unfold divL;rw[a7w (by rw[h.1];exact hi),a8a];rfl
theorem Shp.above {n c:Nat} {m:Mat} (h:Shp n c m) {t:Nat} (ht:t<n) (col s:Nat):Shp n c (above m t col s):=
 h.rows fun i hi r hr=>by
  split
  ·rw[a3J _ _ _ (by rw[hr,h.row ht]),h.row ht]
  ·exact hr
theorem a4K {n c:Nat} {m:Mat} (h:Shp n c m) {t:Nat} (ht:t<n) (col s i j:Nat):ent (above m t col s) i j=if i<t/\i<s then ent m i j - (ent m i col/ent m t col)*ent m t j else ent m i j:=by
 by_cases hi:i<n
 ·unfold Lin.above
  rw[a7x (by rw[h.1];exact hi)];by_cases a:i<t/\i<s
  ·simp only[a,and_self,if_true]
   rw[a7Y _ _ _ _ (by rw[h.row hi,h.row ht])];rfl
  ·rw[if_neg a,if_neg a];rfl
 ·rw[a1L (h.above ht col s) (.inl (by omega)),if_neg (by omega),a1L h (.inl (by omega))]
theorem b3X {n c:Nat} {m:Mat} (h:Shp n c m) {t:Nat} (ht:t<n) (col s:Nat):RE n c (ent m) (ent (above m t col s)) 1:=
 .addmany t ht (fun i=>if i<t/\i<s then - (ent m i col/ent m t col)else 0)
  (fun i hi e j hj=>by rw[a4K h ht];split<;>grind) (fun j hj=>by rw[a4K h ht];simp)
theorem b6S {n c:Nat} {m:Mat} (h:Shp n c m) {i:Nat} (hi:i<n) (col:Nat) (hne:ent m i col≠0):RE n c (ent m) (ent (divL m i col)) (1/ent m i col):=
 .scale i _ hi (by intro e;grind) (fun j _=>by rw[a3o h hi];simp;grind) (fun r _ hr j _=>by rw[a3o h hi,if_neg hr])
noncomputable def dN (m:Mat) (p:List Nat):Nat->Mat
 |0=>m
 |t+1=>dStep (dN m p t) t (p.getD t 0)
structure DOk (n c t:Nat) (m:Mat) (p:List Nat) (s:Mat):Prop where
 shp:Shp n c s
 ech:Ech n c (ent s) p
 red:Red n t (ent s) p
 re:∃d,RE n c (ent m) (ent s) d
theorem DOk.step {n c t:Nat} {m:Mat} {p:List Nat} {s:Mat} (h:DOk n c t m p s) (ht:t<p.length):DOk n c (t+1) m p (dStep s t (p.getD t 0)):=by
 have htn:t<n:=Nat.lt_of_lt_of_le ht h.ech.le;have hp:p.getD t 0=p[t]:=by simp[List.getD_eq_getElem?_getD,ht]
 rw[hp];have hd:=h.shp.divL htn p[t];have hpv:=h.ech.piv t ht;have e1:=fun k j=>a3o h.shp htn p[t] k j;have e2:=fun i j=>a4K hd htn p[t] t i j;obtain⟨d,hre⟩:=h.re;have hone:ent (divL s t p[t]) t p[t]=1:=by rw[e1];simp;grind
 have hrow:∀j,ent (dStep s t p[t]) t j=ent s t j/ent s t p[t]:=fun j=>by
  unfold dStep;rw[e2,if_neg (by omega),e1];simp
 have:=Red.step (g:=ent (dStep s t p[t])) h.ech h.red ht hrow (fun i hi j=>by
   rw[hrow];unfold dStep;rw[e2,if_pos ⟨hi,hi⟩,hone,e1,e1,e1,if_neg (by omega),if_neg (by omega),if_pos rfl];grind) (fun i hi j=>by
   unfold dStep;rw[e2,if_neg (by omega),e1,if_neg (by omega)])
 exact⟨hd.above htn _ _,this.1,this.2,_,hre.trans ((b6S h.shp htn _ hpv).trans (b3X hd htn _ _))⟩
theorem b6T {n c:Nat} {m:Mat} {p:List Nat} (h:Shp n c m) (he:Ech n c (ent m) p) (t:Nat) (ht:t<=p.length):DOk n c t m p (dN m p t):=by
 induction t with
 |zero=>exact⟨h,he,⟨by intros;omega,by intros;omega⟩,1, .same fun _ _ _ _=>rfl⟩
 |succ t ih=>exact(ih (by omega)).step (by omega)
noncomputable def a1b (m:Mat) (c:Nat):Mat×List Nat:=(dN (eN m c).1 (eN m c).2.1 (eN m c).2.1.length,(eN m c).2.1)
theorem a1o {n c:Nat} {m:Mat} (h:Shp n c m):Shp n c (a1b m c).1/\Rref n c (ent (a1b m c).1) (a1b m c).2/\∃d,RE n c (ent m) (ent (a1b m c).1) d:=by
 have h1:=a5L h c;have h2:=b6T h1.shp h1.ech _ (Nat.le_refl _);obtain⟨d,h3⟩:=h2.re;exact⟨h2.shp,h2.ech.rref h2.red,_,h1.re.trans h3⟩
abbrev Sr:=Mat×List Nat×Rat
def pv (m:Mat) (t col:Nat):Mat:=m.set t ((m.getD t []).map (· *(1/ent m t col)))
def out (m:Mat) (t col:Nat) (s:Nat):Mat:=rows m fun i r=>if i≠t/\i<s then List.zipWith (· + ·) r ((m.getD t []).map (· * - r.getD col 0))else r
noncomputable def a6e (s:Sr) (col:Nat):Sr:=
 match b1I s.1 s.2.1.length col with
 |none=>s
 |some k=>(out (pv (a1d s.1 (s.2.1.length+k) s.2.1.length) s.2.1.length col) s.2.1.length col s.1.length,s.2.1++[col],(if k=0 then s.2.2 else - s.2.2)*ent (a1d s.1 (s.2.1.length+k) s.2.1.length) s.2.1.length col)
noncomputable def rN (m:Mat):Nat->Sr
 |0=>(m,[],1)
 |k+1=>a6e (rN m k) k
theorem a5D (r:List Rat) (a:Rat) (j:Nat):(r.map (· *a)).getD j 0=r.getD j 0*a:=by
 simp only[List.getD_eq_getElem?_getD,List.getElem?_map];cases r[j]? with
 |none=>simp
 |some x=>simp
theorem b6U (a b:List Rat) (h:a.length=b.length) (j:Nat):(List.zipWith (· + ·) a b).getD j 0=a.getD j 0+b.getD j 0:=by
 simp only[List.getD_eq_getElem?_getD,List.getElem?_zipWith];by_cases hj:j<a.length
 ·simp[hj,show j<b.length by omega]
 ·simp[show¬j<a.length by omega,show¬j<b.length by omega];grind
theorem Shp.pv {n c:Nat} {m:Mat} (h:Shp n c m) {i:Nat} (hi:i<n) (col:Nat):Shp n c (pv m i col):=h.set i (by rw[List.length_map];exact h.row hi)
theorem b1J {n c:Nat} {m:Mat} (h:Shp n c m) {i:Nat} (hi:i<n) (col k j:Nat):ent (pv m i col) k j=if k=i then ent m i j*(1/ent m i col)else ent m k j:=by
 unfold pv;rw[a7w (by rw[h.1];exact hi),a5D];rfl
theorem Shp.out {n c:Nat} {m:Mat} (h:Shp n c m) {t:Nat} (ht:t<n) (col s:Nat):Shp n c (out m t col s):=
 h.rows fun i hi r hr=>by
  split
  ·rw[List.length_zipWith,List.length_map,hr,h.row ht];omega
  ·exact hr
theorem a9T {n c:Nat} {m:Mat} (h:Shp n c m) {t:Nat} (ht:t<n) (col s i j:Nat):ent (out m t col s) i j=if i≠t/\i<s/\i<n then ent m i j+ent m t j* - ent m i col else ent m i j:=by
 by_cases hi:i<n
 ·unfold Lin.out
  rw[a7x (by rw[h.1];exact hi)];by_cases a:i≠t/\i<s
  ·rw[if_pos a,if_pos ⟨a.1,a.2,hi⟩,b6U _ _ (by rw[List.length_map,h.row hi,h.row ht]),a5D];rfl
  ·rw[if_neg a,if_neg (fun b=>a ⟨b.1,b.2.1⟩)];rfl
 ·rw[a1L (h.out ht col s) (.inl (by omega)),if_neg (by omega),a1L h (.inl (by omega))]
structure ROk (n c k:Nat) (m:Mat) (s:Sr):Prop where
 shp:Shp n c s.1
 ref:Rref n k (ent s.1) s.2.1
 re:∃d,RE n c (ent m) (ent s.1) d/\s.2.2*d=1
theorem ROk.step {n c k:Nat} {m:Mat} {s:Sr} (h:ROk n c k m s):ROk n c (k+1) m (a6e s k):=by
 obtain⟨M,p,fac⟩:=s;have hs:Shp n c M:=h.shp;have he:Rref n k (ent M) p:=h.ref;obtain⟨d,hr,hd⟩:∃d,RE n c (ent m) (ent M) d/\fac*d=1:=h.re;have hl:=hs.1;unfold a6e
 dsimp only
 split
 ·rename_i hz
  exact⟨hs,he.skip fun i hi _=>a7Z hz i hi,d,hr,hd⟩
 ·rename_i q hz
  obtain⟨h1,h2⟩:=a3K hz;have hp:p.length<n:=by omega
  have hpq:p.length+q<n:=by omega
  have hs2:=hs.swap hpq hp;have hes:=fun i j=>a3n hs hpq hp i j;have hs3:=hs2.pv hp k;have hep:=fun i j=>b1J hs2 hp k i j;have heo:=fun i j=>a9T hs3 hp k M.length i j;have hpiv:ent (a1d M (p.length+q) p.length) p.length k≠0:=by rw[hes,if_pos rfl];exact h2
  have hsw:Rref n k (ent (a1d M (p.length+q) p.length)) p:=by
   have hsm:∀i,i<p.length->∀j,ent (a1d M (p.length+q) p.length) i j=ent M i j:=fun i hi j=>by
    rw[hes,if_neg (by omega),if_neg (by omega)]
   have hz0:∀i,p.length<=i->i<n->∀j,j<k->ent (a1d M (p.length+q) p.length) i j=0:=fun i hi hn j hj=>by
    rw[hes];split
    ·exact he.below _ (by omega) hpq j hj
    ·split
     ·exact he.below _ (by omega) hp j hj
     ·exact he.below _ hi hn j hj
   refine⟨he.le,he.lt,he.inc,fun i hi j hj=>by rw[hsm i hi];exact he.left i hi j hj,fun i hi=>by rw[hsm i hi];exact he.one i hi,fun t ht i hi hit=>?_,hz0⟩;by_cases a:i<p.length
   ·rw[hsm i a];exact he.zero t ht i hi hit
   ·exact hz0 i (by omega) hi _ (he.lt t ht)
  have hrow:∀j,ent (out (pv (a1d M (p.length+q) p.length) p.length k) p.length k M.length) p.length j=ent (a1d M (p.length+q) p.length) p.length j*(1/ent (a1d M (p.length+q) p.length) p.length k):=fun j=>by
   rw[heo,if_neg (by omega),hep,if_pos rfl]
  refine⟨hs3.out hp _ _,hsw.push hp hpiv hrow (fun i hi hne j=>?_),?_⟩
  ·rw[hrow,heo,if_pos ⟨hne,by omega,hi⟩,hep,hep,hep,if_neg hne,if_neg hne,if_pos rfl]
  ·have hre3:RE n c (ent (a1d M (p.length+q) p.length)) (ent (pv (a1d M (p.length+q) p.length) p.length k)) (1/ent (a1d M (p.length+q) p.length) p.length k):=
    .scale p.length _ hp (by intro e;grind) (fun j _=>by rw[hep];simp;grind) (fun r _ hr j _=>by rw[hep,if_neg hr])
   have hre4:RE n c (ent (pv (a1d M (p.length+q) p.length) p.length k)) (ent (out (pv (a1d M (p.length+q) p.length) p.length k) p.length k M.length)) 1:=
    .addmany p.length hp (fun i=>if i≠p.length/\i<M.length/\i<n then - ent (pv (a1d M (p.length+q) p.length) p.length k) i k else 0)
     (fun i hi e j hj=>by rw[heo];split<;>grind) (fun j hj=>by rw[heo];simp)
   by_cases b:q=0
   ·subst b
    rw[Nat.add_zero,a5l M _ (by omega)]at hre3 hre4 hpiv |-;exact⟨_,hr.trans (hre3.trans hre4),by simp;grind⟩
   ·exact⟨_,hr.trans ((b1H hs hpq hp (by omega)).trans (hre3.trans hre4)),by simp[b];grind⟩
theorem a5M {n c:Nat} {m:Mat} (h:Shp n c m) (k:Nat):ROk n c k m (rN m k):=by
 induction k with
 |zero=>exact⟨h,Rref.nil _ _,1, .same fun _ _ _ _=>rfl,by show(1:Rat)*1=1;grind⟩
 |succ k ih=>exact ih.step
theorem b1K {n c:Nat} {m:Mat} (h:Shp n c m):(a1b m c).1=(rN m c).1/\(a1b m c).2=(rN m c).2.1:=by
 obtain⟨h1,h2,d,h3⟩:=a1o h;have h4:=a5M h c;obtain⟨e,h5,_⟩:=h4.re;have:=h2.unique h4.ref fun x=>((h3.nul x).symm.trans (h5.nul x));exact⟨h1.ext h4.shp this.2,this.1⟩
open Go.Lim
def HB (B:Nat) (m:Mat):Prop:=∀i j,hq (ent m i j)<=B
theorem HB.pos {B:Nat} {m:Mat} (h:HB B m):1<=B:=Nat.le_trans (a6P _) (h 0 0)
theorem HB.mono {B C:Nat} {m:Mat} (h:HB B m) (hBC:B<=C):HB C m:=fun i j=>Nat.le_trans (h i j) hBC
theorem HB.swap {n c B:Nat} {m:Mat} (h:HB B m) (hs:Shp n c m) {i k:Nat} (hi:i<n) (hk:k<n):HB B (a1d m i k):=fun r j=>by
 rw[a3n hs hi hk];split
 ·exact h _ _
 ·split
  ·exact h _ _
  ·exact h _ _
theorem b6V {x y z u:Rat} {B:Nat} (hx:hq x<=B) (hy:hq y<=B) (hz:hq z<=B) (hu:hq u<=B):hq (y/z)<=2*B/\hq (y/z*u)<=3*B/\hq (x - y/z*u)<=5*B:=by
 have h1:=hq_div y z;have h2:=hq_mul (y/z) u;have h3:=a9N x (y/z*u);have h4:=a6P x;omega
theorem HB.clear {n c B:Nat} {m:Mat} (h:HB B m) (hs:Shp n c m) {t:Nat} (ht:t<n) (col s:Nat):HB (5*B) (clear m t col s):=fun i j=>by
 rw[a4J hs ht];split
 ·exact(b6V (h _ _) (h _ _) (h _ _) (h _ _)).2.2
 ·have:=h i j;omega
theorem HB.eN {n c B:Nat} {m:Mat} (h:HB B m) (hs:Shp n c m) (k:Nat):HB (5^(eN m k).2.1.length*B) (eN m k).1:=by
 induction k with
 |zero=>simpa[Lin.eN]using h
 |succ k ih=>
  have hk:=a5L hs k
  show HB (5^(a6d (Lin.eN m k) k).2.1.length*B) (a6d (Lin.eN m k) k).1
  generalize Lin.eN m k=s at ih hk |-;obtain⟨M,p,odd⟩:=s;have hM:Shp n c M:=hk.shp;have hl:=hM.1;have hle:p.length<=n:=hk.ech.le;unfold a6d
  dsimp only at ih |-
  split
  ·exact ih
  ·split
   ·exact ih
   ·rename_i e _ q hz
    obtain⟨h1,h2⟩:=a3K hz;have:=(ih.swap hM (show p.length<n by omega) (show p.length+q<n by omega)).clear (hM.swap (by omega) (by omega)) (show p.length<n by omega) k M.length;refine this.mono ?_;rw[List.length_append,List.length_singleton,Nat.pow_succ,Nat.mul_comm _ 5,Nat.mul_assoc];exact Nat.le_refl _
theorem HB.divL {n c B:Nat} {m:Mat} (h:HB B m) (hs:Shp n c m) {i:Nat} (hi:i<n) (col:Nat):HB (2*B) (divL m i col):=fun k j=>by
 rw[a3o hs hi];split
 ·have:=hq_div (ent m i j) (ent m i col);have:=h i j;have:=h i col;omega
 ·have:=h k j;omega
theorem b3Y {x y z u:Rat} {B:Nat} (hx:hq x<=B) (hy:hq y<=B) (hz:hq z<=2*B) (hu:hq u<=2*B):hq (y/z)<=3*B/\hq (y/z*u)<=5*B/\hq (x - y/z*u)<=7*B:=by
 have h1:=hq_div y z;have h2:=hq_mul (y/z) u;have h3:=a9N x (y/z*u);have h4:=a6P x;omega
theorem HB.dStep {n c B:Nat} {m:Mat} (h:HB B m) (hs:Shp n c m) {t:Nat} (ht:t<n) (col s:Nat):HB (7*B) (above (Lin.divL m t col) t col s):=fun i j=>by
 have hd:=hs.divL ht col;have h2:=h.divL hs ht col;rw[a4K hd ht];split
 ·refine(b3Y ?_ ?_ (h2 _ _) (h2 _ _)).2.2
  ·rw[a3o hs ht,if_neg (by omega)];exact h _ _
  ·rw[a3o hs ht,if_neg (by omega)];exact h _ _
 ·have:=h2 i j;omega
theorem HB.dN {n c B:Nat} {m:Mat} {p:List Nat} (h:HB B m) (hs:Shp n c m) (he:Ech n c (ent m) p) (t:Nat) (ht:t<=p.length):HB (7^t*B) (dN m p t):=by
 induction t with
 |zero=>simpa[Lin.dN]using h
 |succ t ih=>
  have hk:=b6T hs he t (by omega);have hle:=he.le;refine((ih (by omega)).dStep hk.shp (show t<n by omega) (p.getD t 0) t).mono ?_;rw[Nat.pow_succ,Nat.mul_comm _ 7,Nat.mul_assoc];exact Nat.le_refl _
theorem HB.pv {n c B:Nat} {m:Mat} (h:HB B m) (hs:Shp n c m) {i:Nat} (hi:i<n) (col:Nat):HB (3*B) (pv m i col):=fun k j=>by
 rw[b1J hs hi];split
 ·have h1:=hq_mul (ent m i j) (1/ent m i col);have h2:=hq_div 1 (ent m i col);have:=h i j;have:=h i col;have:=a6P (ent m i j)
  have h3:hq 1=1:=by decide+kernel
  omega
 ·have:=h k j;omega
theorem HB.out {n c B:Nat} {m:Mat} (h:HB B m) (hs:Shp n c m) {t:Nat} (ht:t<n) (col s:Nat):HB (6*B) (Lin.out (Lin.pv m t col) t col s):=fun i j=>by
 have hd:=hs.pv ht col;have h2:=h.pv hs ht col;rw[a9T hd ht];split
 ·rename_i a
  have e:∀j,ent (Lin.pv m t col) i j=ent m i j:=fun j=>by rw[b1J hs ht,if_neg a.1]
  rw[e,e];have h3:=hq_mul (ent (Lin.pv m t col) t j) (- ent m i col);have h4:=a9M (ent m i j) (ent (Lin.pv m t col) t j* - ent m i col);rw[a5v]at h3;have:=h2 t j;have:=h i j;have:=h i col;have:=h.pos;omega
 ·have:=h2 i j;omega
theorem HB.rN {n c B:Nat} {m:Mat} (h:HB B m) (hs:Shp n c m) (k:Nat):HB (6^(rN m k).2.1.length*B) (rN m k).1/\hq (rN m k).2.2<=6^(rN m k).2.1.length*B:=by
 induction k with
 |zero=>exact⟨by simpa[Lin.rN]using h,by simp[Lin.rN];exact h.pos⟩
 |succ k ih=>
  have hk:=a5M hs k
  show HB (6^(a6e (Lin.rN m k) k).2.1.length*B) (a6e (Lin.rN m k) k).1/\hq (a6e (Lin.rN m k) k).2.2<=6^(a6e (Lin.rN m k) k).2.1.length*B
  generalize Lin.rN m k=s at ih hk |-;obtain⟨M,p,fac⟩:=s;have hM:Shp n c M:=hk.shp;have hl:=hM.1;have hle:p.length<=n:=hk.ref.le;unfold a6e
  dsimp only at ih |-
  split
  ·exact ih
  ·rename_i e q hz
   obtain⟨h1,h2⟩:=a3K hz;have hsw:=(ih.1.swap hM (show p.length+q<n by omega) (show p.length<n by omega));have:=hsw.out (hM.swap (by omega) (by omega)) (show p.length<n by omega) k M.length;have he:6*(6^p.length*B)=6^(p++[k]).length*B:=by
    rw[List.length_append,List.length_singleton,Nat.pow_succ,Nat.mul_comm _ 6,Nat.mul_assoc]
   refine⟨this.mono (Nat.le_of_eq he),?_⟩
   dsimp only
   rw[<-he];have h3:=hsw p.length k;have h4:hq (if q=0 then fac else -fac)<=6^p.length*B:=by
    split
    ·exact ih.2
    ·rw[a5v];exact ih.2
   have h5:=hq_mul (if q=0 then fac else -fac) (ent (a1d M (p.length+q) p.length) p.length k);omega
end Go.Lin
