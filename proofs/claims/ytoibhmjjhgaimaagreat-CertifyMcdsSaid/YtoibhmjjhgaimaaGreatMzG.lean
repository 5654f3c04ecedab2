/- reference 03: Add, Mul, Quo. Conditions: at most 2^36 digits. reference 06: Times, Plus. Conditions: at most 2^20 numbers of at most 2^36 digits. reference 03: Sub, Compare, Fraction, Same. Conditions: at most 2^36 digits. made: Number, Matrix. Conditions: few rows and columns. reference 06: Take; made: Matrix, Vector, Sum. Conditions: at most 2^20 rows and columns. matrix: formed, columns. Conditions: lengths far below any machine's. Matrices that a call has made itself, row by row, and writes into: what they are, and what each step leaves of them. Conditions: none. Stores into rows and matrices that a call has made itself, as the walk writes them; readings beside them. Conditions: none. matrix: zero. Conditions: few rows and columns. matrix: copied. Conditions: few rows and columns. Elements of rows that a call has made itself: loads. Conditions: none. matrix: Transpose. Conditions: few rows and columns, numbers of at most 2^36 digits. matrix: dot. Conditions: few numbers of at most 2^36 digits. matrix: Apply, Mul. Conditions: few rows and columns, numbers of few digits. Bounds of determinants and products, for law 06. Conditions: none. -/
import Derived.Test.YtoibhmjjhgaimaaGreatMzF
import Derived.BigRegion
namespace Go.Proofs.YtoibhmjjhgaimaaGreat
open Go.RowKit Go.Rep Go.Lim
set_option maxRecDepth 100000 in
set_option maxHeartbeats 1600000 in
theorem b2N (X:Nat->Bool) (w:World) (u v:Value) (x y:Rat) (hX:HX X w) (hu:QV (mk X w) u x) (hv:QV (mk X w) v y):Calls Tryz.prog 98 #[u,v] w (a1W X w QC (x+y)):=by
 have hlx:=hid hu.hq;have hly:=hid hv.hq;obtain⟨s1,a1,n1,c1,d1,k1,e1,rfl⟩:=hu.shape;obtain⟨s2,a2,n2,c2,d2,k2,e2,rfl⟩:=hv.shape;obtain⟨W,hW,hE,b0,b1,b2,hz⟩:=a1X w #[.bool s1, .slice a1 n1 c1, .slice d1 k1 e1] #[.bool s2, .slice a2 n2 c2, .slice d2 k2 e2] #[.bool false, .slice none 0 0, .slice none 0 0] 32 32 32;have hXW:HX (a0f X w.heap.size 3) W:=hX.boxes hz;have hu1:=QV.mono _ _ _ _ (a0m (nb:=3) hE) hu;have hv1:=QV.mono _ _ _ _ (a0m (nb:=3) hE) hv;obtain⟨b,hb⟩:∃b,w.heap.size=b:=⟨_,rfl⟩;have hbw:w.heap.size<=b:=by omega
 rw[hb]at b0 b1 b2 hz hXW hu1 hv1;have hEd:Ext W W.drew:=(ExtX.refl W).drew;have hXd:HX (a0f X b 3) W.drew:=hXW;have hud:QV (mk (a0f X b 3) W.drew) (.agg #[.bool s1, .slice a1 n1 c1, .slice d1 k1 e1]) x:=hu1;have hvd:QV (mk (a0f X b 3) W.drew) (.agg #[.bool s2, .slice a2 n2 c2, .slice d2 k2 e2]) y:=hv1;have k00:=b0.cell 0 rfl;have k01:=b0.cell 1 rfl;have k02:=b0.cell 2 rfl;have k10:=b1.cell 0 rfl;have k11:=b1.cell 1 rfl;have k12:=b1.cell 2 rfl;clear hu hv;go_enter Tryz.func98,Tryz.ntmps98
 go_upto_region 1 with(fail)
 go_cut []from 5 to 8 (fun wx=>∃s3 a3 n3 c3 d3 k3 e3 s4 a4 n4 c4 d4 k4 e4,Bx wx b #[.bool s3, .slice a3 n3 c3, .slice d3 k3 e3] 32/\Bx wx (b+1) #[.bool s4, .slice a4 n4 c4, .slice d4 k4 e4] 32/\Bx wx (b+1+1) #[.bool false, .slice none 0 0, .slice none 0 0] 32/\QC (mk (a0f X b 3) wx) (.agg #[.bool s3, .slice a3 n3 c3, .slice d3 k3 e3]) x/\QC (mk (a0f X b 3) wx) (.agg #[.bool s4, .slice a4 n4 c4, .slice d4 k4 e4]) y/\Ext w wx)
 case first=>
  go_region_with (first|(go_at_call 118;(with_reducible refine(a4x (a0f X b 3) W.drew _ x hXd hud).mono ?_);rintro ee w5 ⟨hE5,u5,rfl,hq5⟩;obtain⟨s5,a5,n5,c5,d5,k5,e5,rfl⟩:=hq5.shape;have bb0:=b0.ext0 (hEd.trans hE5);have bb1:=b1.ext0 (hEd.trans hE5);have e00:=bb0.cell 0 rfl;have e01:=bb0.cell 1 rfl;have e02:=bb0.cell 2 rfl;have e10:=bb1.cell 0 rfl;have e11:=bb1.cell 1 rfl;have e12:=bb1.cell 2 rfl)|(go_at_call 118;(with_reducible refine(a4x (a0f X b 3) w5 _ y (HX.ext hXd hE5) (mkx QV.mono hvd hE5)).mono ?_);rintro ee w6 ⟨hE6,u6,rfl,hq6⟩;obtain⟨s6,a6,n6,c6,d6,k6,e6,rfl⟩:=hq6.shape;have bb2:=bb0.ext0 hE6;have bb3:=bb1.ext0 hE6;have g00:=bb2.cell 0 rfl;have g01:=bb2.cell 1 rfl;have g02:=bb2.cell 2 rfl;have g10:=bb3.cell 0 rfl;have g11:=bb3.cell 1 rfl;have g12:=bb3.cell 2 rfl;have fr0:=bb2.frozen 0;have fr1:=bb2.frozen 1;have fr4:=bb2.frozen 2;have fr2:=bb3.frozen 0;have fr3:=bb3.frozen 1;have fr5:=bb3.frozen 2))
  all_goals
   obtain⟨wf,hwf,q0,q1,q2,q3,q4⟩:=a1M (X:=X) (nb:=3) bb2 bb3 (hE.trans ((hEd.trans hE5).trans hE6)) hbw (by omega) (.bool s5) (.slice a5 n5 c5) (.slice d5 k5 e5) (.bool s6) (.slice a6 n6 c6) (.slice d6 k6 e6);rw[hwf];have hfx:QC (mk (a0f X b 3) wf) (.agg #[.bool s5, .slice a5 n5 c5, .slice d5 k5 e5]) x:=QC.mono _ _ _ _ q4 (mkx QC.mono hq5 hE6);have hfy:QC (mk (a0f X b 3) wf) (.agg #[.bool s6, .slice a6 n6 c6, .slice d6 k6 e6]) y:=QC.mono _ _ _ _ q4 hq6;have q5:=q2 (b+1+1) _ _ (by omega) (by omega) ((b2.ext0 (hEd.trans hE5)).ext0 hE6);clear e00 e01 e02 e10 e11 e12 g00 g01 g02 g10 g11 g12 fr0 fr1 fr2 fr3 fr4 fr5 k00 k01 k02 k10 k11 k12 hwf;go_wp2_with fail
   go_meet
   exact⟨_,_,_,_,_,_,_,_,_,_,_,_,_,_,q0,q1,q5,hfx,hfy,q3⟩
 case rest=>
  clear k00 k01 k02 k10 k11 k12 b0 b1 b2 hu1 hv1 hud hvd hXd hEd hW;obtain⟨s3,a3,n3,c3,d3,k3,e3,s4,a4,n4,c4,d4,k4,e4,b0,b1,b2,hx,hy,hE1⟩:=hcut;have hzz:w.heap.size+3<=wc.heap.size:=by have:=b2.lt;omega
  obtain⟨hxz,hxm,hxdn⟩:=hx.num;obtain⟨hyz,hym,hydn⟩:=hy.num;have hXc:HX (a0f X b 3) wc:=hX.boxes' hE1 (by have:=hzz;omega) hzz;have k00:=b0.cell 0 rfl;have k01:=b0.cell 1 rfl;have k02:=b0.cell 2 rfl;have k10:=b1.cell 0 rfl;have k11:=b1.cell 1 rfl;have k12:=b1.cell 2 rfl;have hEd:Ext wc wc.drew:=(ExtX.refl wc).drew;have hXd:HX (a0f X b 3) wc.drew:=hXc;have hxd:QC (mk (a0f X b 3) wc.drew) (.agg #[.bool s3, .slice a3 n3 c3, .slice d3 k3 e3]) x:=hx;have hyd:QC (mk (a0f X b 3) wc.drew) (.agg #[.bool s4, .slice a4 n4 c4, .slice d4 k4 e4]) y:=hy;have hxzd:ZC (mk (a0f X b 3) wc.drew) (.agg #[.bool s3, .slice a3 n3 c3]) x.num:=hxz;have hyzd:ZC (mk (a0f X b 3) wc.drew) (.agg #[.bool s4, .slice a4 n4 c4]) y.num:=hyz;have bxn:lg x.num.natAbs<=549755813888:=Nat.le_trans (Nat.le_trans (a0x x) hlx.out) (by omega);have byn:lg y.num.natAbs<=549755813888:=Nat.le_trans (Nat.le_trans (a0x y) hly.out) (by omega);have bxd:lg x.den<=549755813888:=Nat.le_trans (Nat.le_trans (a0y x) hlx.out) (by omega);have byd:lg y.den<=549755813888:=Nat.le_trans (Nat.le_trans (a0y y) hly.out) (by omega);have bp1:lg (x.num*(y.den:Int)).natAbs<=274877906944:=by rw[Int.natAbs_mul,Int.natAbs_natCast];have:=a0T x.num.natAbs y.den;have:=a0x x;have:=a0y y;have:=hlx.out;have:=hly.out;omega
  have bp2:lg (y.num*(x.den:Int)).natAbs<=274877906944:=by rw[Int.natAbs_mul,Int.natAbs_natCast];have:=a0T y.num.natAbs x.den;have:=a0x y;have:=a0y x;have:=hlx.out;have:=hly.out;omega
  have bdd:lg (x.den*y.den)<=274877906944:=by have:=a0T x.den y.den;have:=a0y x;have:=a0y y;have:=hlx.out;have:=hly.out;omega
  have bnn:lg (x.num*y.num).natAbs<=274877906944:=by rw[Int.natAbs_mul];have:=a0T x.num.natAbs y.num.natAbs;have:=a0x x;have:=a0x y;have:=hlx.out;have:=hly.out;omega
  have bd0:0<x.den*y.den:=Nat.mul_pos x.den_pos y.den_pos;have hB:=hid (And.intro b0 b1);have hS:Hid (∀W',Ext wc.drew W'->W'.cell? ⟨b,0,none⟩=some (.bool s3)/\W'.cell? ⟨b,1,none⟩=some (.slice a3 n3 c3)/\W'.cell? ⟨b,2,none⟩=some (.slice d3 k3 e3)/\W'.cell? ⟨b+1,0,none⟩=some (.bool s4)/\W'.cell? ⟨b+1,1,none⟩=some (.slice a4 n4 c4)/\W'.cell? ⟨b+1,2,none⟩=some (.slice d4 k4 e4)):=
   hid fun W' h=>⟨(b0.ext0 (hEd.trans h)).cell 0 rfl,(b0.ext0 (hEd.trans h)).cell 1 rfl,(b0.ext0 (hEd.trans h)).cell 2 rfl,(b1.ext0 (hEd.trans h)).cell 0 rfl,(b1.ext0 (hEd.trans h)).cell 1 rfl,(b1.ext0 (hEd.trans h)).cell 2 rfl⟩
  have bqx:hq x<=549755813888:=Nat.le_trans hlx.out (by decide);have bqy:hq y<=549755813888:=Nat.le_trans hly.out (by decide);have cxn:lg x.num.natAbs<=274877906944:=Nat.le_trans (Nat.le_trans (a0x x) hlx.out) (by omega);have cyn:lg y.num.natAbs<=274877906944:=Nat.le_trans (Nat.le_trans (a0x y) hly.out) (by omega);have cxd:lg (x.den:Int).natAbs<=274877906944:=Nat.le_trans (Nat.le_trans (a0y x) hlx.out) (by omega);have cyd:lg (y.den:Int).natAbs<=274877906944:=Nat.le_trans (Nat.le_trans (a0y y) hly.out) (by omega);have cdd:lg ((x.den:Int)*(y.den:Int)).natAbs<=274877906944:=by rw[<-Int.natCast_mul,Int.natAbs_natCast];exact bdd
  have cd0:(x.den:Int)*(y.den:Int)≠0:=Int.mul_ne_zero (by have:=x.den_nz;omega) (by have:=y.den_nz;omega);have csum:lg (x.num*(y.den:Int)+y.num*(x.den:Int)).natAbs<=274877906944:=by
   have h1:=a1b (Int.natAbs_add_le (x.num*(y.den:Int)) (y.num*(x.den:Int)));have h2:=a8U (x.num*(y.den:Int)).natAbs (y.num*(x.den:Int)).natAbs;have h3:lg (x.num*(y.den:Int)).natAbs<=137438953472:=by rw[Int.natAbs_mul,Int.natAbs_natCast];have:=a0T x.num.natAbs y.den;have:=a0x x;have:=a0y y;have:=hlx.out;have:=hly.out;omega
   have h4:lg (y.num*(x.den:Int)).natAbs<=137438953472:=by rw[Int.natAbs_mul,Int.natAbs_natCast];have:=a0T y.num.natAbs x.den;have:=a0x y;have:=a0y x;have:=hlx.out;have:=hly.out;omega
   omega
  have hfin:Hid (((x.num*(y.den:Int)+y.num*(x.den:Int):Int):Rat)/(((x.den:Int)*(y.den:Int):Int):Rat)=x+y):=hid (by
   rw[<-Int.natCast_mul,Rat.intCast_natCast,<-Rat.mkRat_eq_div];exact(Rat.add_def' x y).symm)
  go_wp2_with fail
  go_region_held3 (fun w'=>w'.cell? ⟨b,0,none⟩=some (.bool s3)/\w'.cell? ⟨b,1,none⟩=some (.slice a3 n3 c3)/\w'.cell? ⟨b,2,none⟩=some (.slice d3 k3 e3)/\w'.cell? ⟨b+1,0,none⟩=some (.bool s4)/\w'.cell? ⟨b+1,1,none⟩=some (.slice a4 n4 c4)/\w'.cell? ⟨b+1,2,none⟩=some (.slice d4 k4 e4))
   (first|exact hS.out _ t1|exact hS.out _ t2|exact hS.out _ t3|exact hS.out _ t4|exact hS.out _ t5|exact hS.out _ t6|exact hS.out _ t7|exact hS.out _ t8|exact hS.out _ t9|exact⟨((hB.out.1.ext0 (hEd.trans t9)).ext (bb2.set3 _ _ _).2 (a0c (by omega))).cell 0 rfl,((hB.out.1.ext0 (hEd.trans t9)).ext (bb2.set3 _ _ _).2 (a0c (by omega))).cell 1 rfl,((hB.out.1.ext0 (hEd.trans t9)).ext (bb2.set3 _ _ _).2 (a0c (by omega))).cell 2 rfl,((hB.out.2.ext0 (hEd.trans t9)).ext (bb2.set3 _ _ _).2 (a0c (by omega))).cell 0 rfl,((hB.out.2.ext0 (hEd.trans t9)).ext (bb2.set3 _ _ _).2 (a0c (by omega))).cell 1 rfl,((hB.out.2.ext0 (hEd.trans t9)).ext (bb2.set3 _ _ _).2 (a0c (by omega))).cell 2 rfl⟩|go_keep)
   (first|(go_at_call 137;(with_reducible refine(a7A (a0f X b 3) wc.drew _ y hXd hyd bqy).mono ?_);rintro ee w5 ⟨t1,u5,rfl,hu5⟩;have hX5:=HX.ext hXd t1;have hx5:=mkx ZC.mono hxzd t1)|(go_at_call 136;(with_reducible refine(a8m (a0f X b 3) w5 _ _ x.num (y.den:Int) hX5 (hx5.zv (Nat.le_trans cxn (by decide))) (hu5.zv (Nat.le_trans cyd (by decide))) cxn cyd).mono ?_);rintro ee w6 ⟨hE6,u6,rfl,hu6⟩;have t2:=t1.trans hE6;have hX6:=HX.ext hXd t2;have hx6:=mkx QC.mono hxd t2)|(go_at_call 137;(with_reducible refine(a7A (a0f X b 3) w6 _ x hX6 hx6 bqx).mono ?_);rintro ee w7 ⟨hE7,u7,rfl,hu7⟩;have t3:=t2.trans hE7;have hX7:=HX.ext hXd t3;have hy7:=mkx ZC.mono hyzd t3)|(go_at_call 136;(with_reducible refine(a8m (a0f X b 3) w7 _ _ y.num (x.den:Int) hX7 (hy7.zv (Nat.le_trans cyn (by decide))) (hu7.zv (Nat.le_trans cxd (by decide))) cyn cxd).mono ?_);rintro ee w8 ⟨hE8,u8,rfl,hu8⟩;have t4:=t3.trans hE8;have hX8:=HX.ext hXd t4;have hz6:=mkx ZC.mono hu6 (hE7.trans hE8))|(go_at_call 153;(with_reducible refine(b6S (a0f X b 3) w8 _ _ _ _ hX8 (hz6.zv (Nat.le_trans bp1 (by decide))) (hu8.zv (Nat.le_trans bp2 (by decide)))).mono ?_);rintro ee w9 ⟨hE9,u9,rfl,hu9⟩;have t5:=t4.trans hE9;have hX9:=HX.ext hXd t5;have hx9:=mkx QC.mono hxd t5)|(go_at_call 137;(with_reducible refine(a7A (a0f X b 3) w9 _ x hX9 hx9 bqx).mono ?_);rintro ee w10 ⟨hE10,u10,rfl,hu10⟩;have t6:=t5.trans hE10;have hX10:=HX.ext hXd t6;have hy10:=mkx QC.mono hyd t6)|(go_at_call 137;(with_reducible refine(a7A (a0f X b 3) w10 _ y hX10 hy10 bqy).mono ?_);rintro ee w11 ⟨hE11,u11,rfl,hu11⟩;have t7:=t6.trans hE11;have hX11:=HX.ext hXd t7;have hm10:=mkx ZC.mono hu10 hE11)|(go_at_call 136;(with_reducible refine(a8m (a0f X b 3) w11 _ _ (x.den:Int) (y.den:Int) hX11 (hm10.zv (Nat.le_trans cxd (by decide))) (hu11.zv (Nat.le_trans cyd (by decide))) cxd cyd).mono ?_);rintro ee w12 ⟨hE12,u12,rfl,hu12⟩;have t8:=t7.trans hE12;have hX12:=HX.ext hXd t8;have hz9:=mkx ZC.mono hu9 (hE10.trans (hE11.trans hE12)))|(go_at_call 113;(with_reducible refine(a9j (a0f X b 3) w12 _ _ _ _ hX12 hz9 hu12 csum cdd cd0).mono ?_);rintro ee w13 ⟨hE13,u13,rfl,hu13⟩;have t9:=t8.trans hE13;obtain⟨s13,a13,n13,c13,d13,k13,e13,rfl⟩:=hu13.shape;have bb2:=b2.ext0 (hEd.trans t9);have g0:=bb2.cell 0 rfl;have g1:=bb2.cell 1 rfl;have g2:=bb2.cell 2 rfl;have f0:=bb2.frozen 0;have f1:=bb2.frozen 1;have f2:=bb2.frozen 2))
  rw[hfin.out]at hu13;obtain⟨r1,r2⟩:=bb2.set3 (.bool s13) (.slice a13 n13 c13) (.slice d13 k13 e13);have h7:=QC.mono _ _ _ _ a0l (QC.mono _ _ _ _ (a0g r2 (by omega) (by omega)) hu13);have hEf:Ext w _:=ExtX.box (hE1.trans (hEd.trans t9)) r2 (by omega);clear g0 g1 g2 f0 f1 f2 k00 k01 k02 k10 k11 k12 hS hB;go_wp2_with fail
  exact bodyPost_ret (a0e rfl rfl a0s r1 rfl) rfl ⟨hEf,_,rfl,h7⟩
set_option maxRecDepth 100000 in
set_option maxHeartbeats 1600000 in
theorem b2O (X:Nat->Bool) (w:World) (u v:Value) (x y:Rat) (hX:HX X w) (hu:QV (mk X w) u x) (hv:QV (mk X w) v y):Calls Tryz.prog 77 #[u,v] w (a1W X w QC (x*y)):=by
 have hlx:=hid hu.hq;have hly:=hid hv.hq;obtain⟨s1,a1,n1,c1,d1,k1,e1,rfl⟩:=hu.shape;obtain⟨s2,a2,n2,c2,d2,k2,e2,rfl⟩:=hv.shape;obtain⟨W,hW,hE,b0,b1,b2,hz⟩:=a1X w #[.bool s1, .slice a1 n1 c1, .slice d1 k1 e1] #[.bool s2, .slice a2 n2 c2, .slice d2 k2 e2] #[.bool false, .slice none 0 0, .slice none 0 0] 32 32 32;have hXW:HX (a0f X w.heap.size 3) W:=hX.boxes hz;have hu1:=QV.mono _ _ _ _ (a0m (nb:=3) hE) hu;have hv1:=QV.mono _ _ _ _ (a0m (nb:=3) hE) hv;obtain⟨b,hb⟩:∃b,w.heap.size=b:=⟨_,rfl⟩;have hbw:w.heap.size<=b:=by omega
 rw[hb]at b0 b1 b2 hz hXW hu1 hv1;have hEd:Ext W W.drew:=(ExtX.refl W).drew;have hXd:HX (a0f X b 3) W.drew:=hXW;have hud:QV (mk (a0f X b 3) W.drew) (.agg #[.bool s1, .slice a1 n1 c1, .slice d1 k1 e1]) x:=hu1;have hvd:QV (mk (a0f X b 3) W.drew) (.agg #[.bool s2, .slice a2 n2 c2, .slice d2 k2 e2]) y:=hv1;have k00:=b0.cell 0 rfl;have k01:=b0.cell 1 rfl;have k02:=b0.cell 2 rfl;have k10:=b1.cell 0 rfl;have k11:=b1.cell 1 rfl;have k12:=b1.cell 2 rfl;clear hu hv;go_enter Tryz.func77,Tryz.ntmps77
 go_upto_region 1 with(fail)
 go_cut []from 5 to 8 (fun wx=>∃s3 a3 n3 c3 d3 k3 e3 s4 a4 n4 c4 d4 k4 e4,Bx wx b #[.bool s3, .slice a3 n3 c3, .slice d3 k3 e3] 32/\Bx wx (b+1) #[.bool s4, .slice a4 n4 c4, .slice d4 k4 e4] 32/\Bx wx (b+1+1) #[.bool false, .slice none 0 0, .slice none 0 0] 32/\QC (mk (a0f X b 3) wx) (.agg #[.bool s3, .slice a3 n3 c3, .slice d3 k3 e3]) x/\QC (mk (a0f X b 3) wx) (.agg #[.bool s4, .slice a4 n4 c4, .slice d4 k4 e4]) y/\Ext w wx)
 case first=>
  go_region_with (first|(go_at_call 118;(with_reducible refine(a4x (a0f X b 3) W.drew _ x hXd hud).mono ?_);rintro ee w5 ⟨hE5,u5,rfl,hq5⟩;obtain⟨s5,a5,n5,c5,d5,k5,e5,rfl⟩:=hq5.shape;have bb0:=b0.ext0 (hEd.trans hE5);have bb1:=b1.ext0 (hEd.trans hE5);have e00:=bb0.cell 0 rfl;have e01:=bb0.cell 1 rfl;have e02:=bb0.cell 2 rfl;have e10:=bb1.cell 0 rfl;have e11:=bb1.cell 1 rfl;have e12:=bb1.cell 2 rfl)|(go_at_call 118;(with_reducible refine(a4x (a0f X b 3) w5 _ y (HX.ext hXd hE5) (mkx QV.mono hvd hE5)).mono ?_);rintro ee w6 ⟨hE6,u6,rfl,hq6⟩;obtain⟨s6,a6,n6,c6,d6,k6,e6,rfl⟩:=hq6.shape;have bb2:=bb0.ext0 hE6;have bb3:=bb1.ext0 hE6;have g00:=bb2.cell 0 rfl;have g01:=bb2.cell 1 rfl;have g02:=bb2.cell 2 rfl;have g10:=bb3.cell 0 rfl;have g11:=bb3.cell 1 rfl;have g12:=bb3.cell 2 rfl;have fr0:=bb2.frozen 0;have fr1:=bb2.frozen 1;have fr4:=bb2.frozen 2;have fr2:=bb3.frozen 0;have fr3:=bb3.frozen 1;have fr5:=bb3.frozen 2))
  all_goals
   obtain⟨wf,hwf,q0,q1,q2,q3,q4⟩:=a1M (X:=X) (nb:=3) bb2 bb3 (hE.trans ((hEd.trans hE5).trans hE6)) hbw (by omega) (.bool s5) (.slice a5 n5 c5) (.slice d5 k5 e5) (.bool s6) (.slice a6 n6 c6) (.slice d6 k6 e6);rw[hwf];have hfx:QC (mk (a0f X b 3) wf) (.agg #[.bool s5, .slice a5 n5 c5, .slice d5 k5 e5]) x:=QC.mono _ _ _ _ q4 (mkx QC.mono hq5 hE6);have hfy:QC (mk (a0f X b 3) wf) (.agg #[.bool s6, .slice a6 n6 c6, .slice d6 k6 e6]) y:=QC.mono _ _ _ _ q4 hq6;have q5:=q2 (b+1+1) _ _ (by omega) (by omega) ((b2.ext0 (hEd.trans hE5)).ext0 hE6);clear e00 e01 e02 e10 e11 e12 g00 g01 g02 g10 g11 g12 fr0 fr1 fr2 fr3 fr4 fr5 k00 k01 k02 k10 k11 k12 hwf;go_wp2_with fail
   go_meet
   exact⟨_,_,_,_,_,_,_,_,_,_,_,_,_,_,q0,q1,q5,hfx,hfy,q3⟩
 case rest=>
  clear k00 k01 k02 k10 k11 k12 b0 b1 b2 hu1 hv1 hud hvd hXd hEd hW;obtain⟨s3,a3,n3,c3,d3,k3,e3,s4,a4,n4,c4,d4,k4,e4,b0,b1,b2,hx,hy,hE1⟩:=hcut;have hzz:w.heap.size+3<=wc.heap.size:=by have:=b2.lt;omega
  obtain⟨hxz,hxm,hxdn⟩:=hx.num;obtain⟨hyz,hym,hydn⟩:=hy.num;have hXc:HX (a0f X b 3) wc:=hX.boxes' hE1 (by have:=hzz;omega) hzz;have k00:=b0.cell 0 rfl;have k01:=b0.cell 1 rfl;have k02:=b0.cell 2 rfl;have k10:=b1.cell 0 rfl;have k11:=b1.cell 1 rfl;have k12:=b1.cell 2 rfl;have hEd:Ext wc wc.drew:=(ExtX.refl wc).drew;have hXd:HX (a0f X b 3) wc.drew:=hXc;have hxd:QC (mk (a0f X b 3) wc.drew) (.agg #[.bool s3, .slice a3 n3 c3, .slice d3 k3 e3]) x:=hx;have hyd:QC (mk (a0f X b 3) wc.drew) (.agg #[.bool s4, .slice a4 n4 c4, .slice d4 k4 e4]) y:=hy;have hxzd:ZC (mk (a0f X b 3) wc.drew) (.agg #[.bool s3, .slice a3 n3 c3]) x.num:=hxz;have hyzd:ZC (mk (a0f X b 3) wc.drew) (.agg #[.bool s4, .slice a4 n4 c4]) y.num:=hyz;have bxn:lg x.num.natAbs<=549755813888:=Nat.le_trans (Nat.le_trans (a0x x) hlx.out) (by omega);have byn:lg y.num.natAbs<=549755813888:=Nat.le_trans (Nat.le_trans (a0x y) hly.out) (by omega);have bxd:lg x.den<=549755813888:=Nat.le_trans (Nat.le_trans (a0y x) hlx.out) (by omega);have byd:lg y.den<=549755813888:=Nat.le_trans (Nat.le_trans (a0y y) hly.out) (by omega);have bp1:lg (x.num*(y.den:Int)).natAbs<=274877906944:=by rw[Int.natAbs_mul,Int.natAbs_natCast];have:=a0T x.num.natAbs y.den;have:=a0x x;have:=a0y y;have:=hlx.out;have:=hly.out;omega
  have bp2:lg (y.num*(x.den:Int)).natAbs<=274877906944:=by rw[Int.natAbs_mul,Int.natAbs_natCast];have:=a0T y.num.natAbs x.den;have:=a0x y;have:=a0y x;have:=hlx.out;have:=hly.out;omega
  have bdd:lg (x.den*y.den)<=274877906944:=by have:=a0T x.den y.den;have:=a0y x;have:=a0y y;have:=hlx.out;have:=hly.out;omega
  have bnn:lg (x.num*y.num).natAbs<=274877906944:=by rw[Int.natAbs_mul];have:=a0T x.num.natAbs y.num.natAbs;have:=a0x x;have:=a0x y;have:=hlx.out;have:=hly.out;omega
  have bd0:0<x.den*y.den:=Nat.mul_pos x.den_pos y.den_pos;have hB:=hid (And.intro b0 b1);have hS:Hid (∀W',Ext wc.drew W'->W'.cell? ⟨b,0,none⟩=some (.bool s3)/\W'.cell? ⟨b,1,none⟩=some (.slice a3 n3 c3)/\W'.cell? ⟨b,2,none⟩=some (.slice d3 k3 e3)/\W'.cell? ⟨b+1,0,none⟩=some (.bool s4)/\W'.cell? ⟨b+1,1,none⟩=some (.slice a4 n4 c4)/\W'.cell? ⟨b+1,2,none⟩=some (.slice d4 k4 e4)):=
   hid fun W' h=>⟨(b0.ext0 (hEd.trans h)).cell 0 rfl,(b0.ext0 (hEd.trans h)).cell 1 rfl,(b0.ext0 (hEd.trans h)).cell 2 rfl,(b1.ext0 (hEd.trans h)).cell 0 rfl,(b1.ext0 (hEd.trans h)).cell 1 rfl,(b1.ext0 (hEd.trans h)).cell 2 rfl⟩
  have bqx:hq x<=549755813888:=Nat.le_trans hlx.out (by decide);have bqy:hq y<=549755813888:=Nat.le_trans hly.out (by decide);have cxn:lg x.num.natAbs<=274877906944:=Nat.le_trans (Nat.le_trans (a0x x) hlx.out) (by omega);have cyn:lg y.num.natAbs<=274877906944:=Nat.le_trans (Nat.le_trans (a0x y) hly.out) (by omega);have cxd:lg (x.den:Int).natAbs<=274877906944:=Nat.le_trans (Nat.le_trans (a0y x) hlx.out) (by omega);have cyd:lg (y.den:Int).natAbs<=274877906944:=Nat.le_trans (Nat.le_trans (a0y y) hly.out) (by omega);have cdd:lg ((x.den:Int)*(y.den:Int)).natAbs<=274877906944:=by rw[<-Int.natCast_mul,Int.natAbs_natCast];exact bdd
  have cd0:(x.den:Int)*(y.den:Int)≠0:=Int.mul_ne_zero (by have:=x.den_nz;omega) (by have:=y.den_nz;omega);have hfin:Hid (((x.num*y.num:Int):Rat)/(((x.den:Int)*(y.den:Int):Int):Rat)=x*y):=hid (by
   rw[<-Int.natCast_mul,Rat.intCast_natCast,<-Rat.mkRat_eq_div];exact(Rat.mul_def' x y).symm)
  go_wp2_with fail
  go_region_held3 (fun w'=>w'.cell? ⟨b,0,none⟩=some (.bool s3)/\w'.cell? ⟨b,1,none⟩=some (.slice a3 n3 c3)/\w'.cell? ⟨b,2,none⟩=some (.slice d3 k3 e3)/\w'.cell? ⟨b+1,0,none⟩=some (.bool s4)/\w'.cell? ⟨b+1,1,none⟩=some (.slice a4 n4 c4)/\w'.cell? ⟨b+1,2,none⟩=some (.slice d4 k4 e4))
   (first|exact hS.out _ t1|exact hS.out _ t2|exact hS.out _ t3|exact hS.out _ t4|exact hS.out _ t5|exact⟨((hB.out.1.ext0 (hEd.trans t5)).ext (bb2.set3 _ _ _).2 (a0c (by omega))).cell 0 rfl,((hB.out.1.ext0 (hEd.trans t5)).ext (bb2.set3 _ _ _).2 (a0c (by omega))).cell 1 rfl,((hB.out.1.ext0 (hEd.trans t5)).ext (bb2.set3 _ _ _).2 (a0c (by omega))).cell 2 rfl,((hB.out.2.ext0 (hEd.trans t5)).ext (bb2.set3 _ _ _).2 (a0c (by omega))).cell 0 rfl,((hB.out.2.ext0 (hEd.trans t5)).ext (bb2.set3 _ _ _).2 (a0c (by omega))).cell 1 rfl,((hB.out.2.ext0 (hEd.trans t5)).ext (bb2.set3 _ _ _).2 (a0c (by omega))).cell 2 rfl⟩|go_keep)
   (first|(go_at_call 136;(with_reducible refine(a8m (a0f X b 3) wc.drew _ _ x.num y.num hXd (hxzd.zv (Nat.le_trans cxn (by decide))) (hyzd.zv (Nat.le_trans cyn (by decide))) cxn cyn).mono ?_);rintro ee w5 ⟨t1,u5,rfl,hu5⟩;have hX5:=HX.ext hXd t1;have hx5:=mkx QC.mono hxd t1)|(go_at_call 137;(with_reducible refine(a7A (a0f X b 3) w5 _ x hX5 hx5 bqx).mono ?_);rintro ee w6 ⟨hE6,u6,rfl,hu6⟩;have t2:=t1.trans hE6;have hX6:=HX.ext hXd t2;have hy6:=mkx QC.mono hyd t2)|(go_at_call 137;(with_reducible refine(a7A (a0f X b 3) w6 _ y hX6 hy6 bqy).mono ?_);rintro ee w7 ⟨hE7,u7,rfl,hu7⟩;have t3:=t2.trans hE7;have hX7:=HX.ext hXd t3;have hm6:=mkx ZC.mono hu6 hE7)|(go_at_call 136;(with_reducible refine(a8m (a0f X b 3) w7 _ _ (x.den:Int) (y.den:Int) hX7 (hm6.zv (Nat.le_trans cxd (by decide))) (hu7.zv (Nat.le_trans cyd (by decide))) cxd cyd).mono ?_);rintro ee w8 ⟨hE8,u8,rfl,hu8⟩;have t4:=t3.trans hE8;have hX8:=HX.ext hXd t4;have hz5:=mkx ZC.mono hu5 (hE6.trans (hE7.trans hE8)))|(go_at_call 113;(with_reducible refine(a9j (a0f X b 3) w8 _ _ _ _ hX8 hz5 hu8 bnn cdd cd0).mono ?_);rintro ee w9 ⟨hE9,u9,rfl,hu9⟩;have t5:=t4.trans hE9;obtain⟨s13,a13,n13,c13,d13,k13,e13,rfl⟩:=hu9.shape;have bb2:=b2.ext0 (hEd.trans t5);have g0:=bb2.cell 0 rfl;have g1:=bb2.cell 1 rfl;have g2:=bb2.cell 2 rfl;have f0:=bb2.frozen 0;have f1:=bb2.frozen 1;have f2:=bb2.frozen 2))
  rw[hfin.out]at hu9;obtain⟨r1,r2⟩:=bb2.set3 (.bool s13) (.slice a13 n13 c13) (.slice d13 k13 e13);have h7:=QC.mono _ _ _ _ a0l (QC.mono _ _ _ _ (a0g r2 (by omega) (by omega)) hu9);have hEf:Ext w _:=ExtX.box (hE1.trans (hEd.trans t5)) r2 (by omega);clear g0 g1 g2 f0 f1 f2 k00 k01 k02 k10 k11 k12 hS hB;go_wp2_with fail
  exact bodyPost_ret (a0e rfl rfl a0s r1 rfl) rfl ⟨hEf,_,rfl,h7⟩
set_option maxRecDepth 100000 in
set_option maxHeartbeats 1600000 in
theorem b6k (X:Nat->Bool) (w:World) (u v:Value) (x y:Rat) (hX:HX X w) (hu:QV (mk X w) u x) (hv:QV (mk X w) v y) (hy0:y≠0):Calls Tryz.prog 211 #[u,v] w (a1W X w QC (x/y)):=by
 have hlx:=hid hu.hq;have hly:=hid hv.hq;obtain⟨s1,a1,n1,c1,d1,k1,e1,rfl⟩:=hu.shape;obtain⟨s2,a2,n2,c2,d2,k2,e2,rfl⟩:=hv.shape;obtain⟨W,hW,hE,b0,b1,b2,hz⟩:=a1X w #[.bool s1, .slice a1 n1 c1, .slice d1 k1 e1] #[.bool s2, .slice a2 n2 c2, .slice d2 k2 e2] #[.bool false, .slice none 0 0, .slice none 0 0] 32 32 32;have hXW:HX (a0f X w.heap.size 3) W:=hX.boxes hz;have hu1:=QV.mono _ _ _ _ (a0m (nb:=3) hE) hu;have hv1:=QV.mono _ _ _ _ (a0m (nb:=3) hE) hv;obtain⟨b,hb⟩:∃b,w.heap.size=b:=⟨_,rfl⟩;have hbw:w.heap.size<=b:=by omega
 rw[hb]at b0 b1 b2 hz hXW hu1 hv1;have hEd:Ext W W.drew:=(ExtX.refl W).drew;have hXd:HX (a0f X b 3) W.drew:=hXW;have hud:QV (mk (a0f X b 3) W.drew) (.agg #[.bool s1, .slice a1 n1 c1, .slice d1 k1 e1]) x:=hu1;have hvd:QV (mk (a0f X b 3) W.drew) (.agg #[.bool s2, .slice a2 n2 c2, .slice d2 k2 e2]) y:=hv1;have k00:=b0.cell 0 rfl;have k01:=b0.cell 1 rfl;have k02:=b0.cell 2 rfl;have k10:=b1.cell 0 rfl;have k11:=b1.cell 1 rfl;have k12:=b1.cell 2 rfl;clear hu hv;go_enter Tryz.func211,Tryz.ntmps211
 go_upto_region 1 with(fail)
 go_cut []from 5 to 8 (fun wx=>∃s3 a3 n3 c3 d3 k3 e3 s4 a4 n4 c4 d4 k4 e4,Bx wx b #[.bool s3, .slice a3 n3 c3, .slice d3 k3 e3] 32/\Bx wx (b+1) #[.bool s4, .slice a4 n4 c4, .slice d4 k4 e4] 32/\Bx wx (b+1+1) #[.bool false, .slice none 0 0, .slice none 0 0] 32/\QC (mk (a0f X b 3) wx) (.agg #[.bool s3, .slice a3 n3 c3, .slice d3 k3 e3]) x/\QC (mk (a0f X b 3) wx) (.agg #[.bool s4, .slice a4 n4 c4, .slice d4 k4 e4]) y/\Ext w wx)
 case first=>
  go_region_with (first|(go_at_call 118;(with_reducible refine(a4x (a0f X b 3) W.drew _ x hXd hud).mono ?_);rintro ee w5 ⟨hE5,u5,rfl,hq5⟩;obtain⟨s5,a5,n5,c5,d5,k5,e5,rfl⟩:=hq5.shape;have bb0:=b0.ext0 (hEd.trans hE5);have bb1:=b1.ext0 (hEd.trans hE5);have e00:=bb0.cell 0 rfl;have e01:=bb0.cell 1 rfl;have e02:=bb0.cell 2 rfl;have e10:=bb1.cell 0 rfl;have e11:=bb1.cell 1 rfl;have e12:=bb1.cell 2 rfl)|(go_at_call 118;(with_reducible refine(a4x (a0f X b 3) w5 _ y (HX.ext hXd hE5) (mkx QV.mono hvd hE5)).mono ?_);rintro ee w6 ⟨hE6,u6,rfl,hq6⟩;obtain⟨s6,a6,n6,c6,d6,k6,e6,rfl⟩:=hq6.shape;have bb2:=bb0.ext0 hE6;have bb3:=bb1.ext0 hE6;have g00:=bb2.cell 0 rfl;have g01:=bb2.cell 1 rfl;have g02:=bb2.cell 2 rfl;have g10:=bb3.cell 0 rfl;have g11:=bb3.cell 1 rfl;have g12:=bb3.cell 2 rfl;have fr0:=bb2.frozen 0;have fr1:=bb2.frozen 1;have fr4:=bb2.frozen 2;have fr2:=bb3.frozen 0;have fr3:=bb3.frozen 1;have fr5:=bb3.frozen 2))
  all_goals
   obtain⟨wf,hwf,q0,q1,q2,q3,q4⟩:=a1M (X:=X) (nb:=3) bb2 bb3 (hE.trans ((hEd.trans hE5).trans hE6)) hbw (by omega) (.bool s5) (.slice a5 n5 c5) (.slice d5 k5 e5) (.bool s6) (.slice a6 n6 c6) (.slice d6 k6 e6);rw[hwf];have hfx:QC (mk (a0f X b 3) wf) (.agg #[.bool s5, .slice a5 n5 c5, .slice d5 k5 e5]) x:=QC.mono _ _ _ _ q4 (mkx QC.mono hq5 hE6);have hfy:QC (mk (a0f X b 3) wf) (.agg #[.bool s6, .slice a6 n6 c6, .slice d6 k6 e6]) y:=QC.mono _ _ _ _ q4 hq6;have q5:=q2 (b+1+1) _ _ (by omega) (by omega) ((b2.ext0 (hEd.trans hE5)).ext0 hE6);clear e00 e01 e02 e10 e11 e12 g00 g01 g02 g10 g11 g12 fr0 fr1 fr2 fr3 fr4 fr5 k00 k01 k02 k10 k11 k12 hwf;go_wp2_with fail
   go_meet
   exact⟨_,_,_,_,_,_,_,_,_,_,_,_,_,_,q0,q1,q5,hfx,hfy,q3⟩
 case rest=>
  clear k00 k01 k02 k10 k11 k12 b0 b1 b2 hu1 hv1 hud hvd hXd hEd hW;obtain⟨s3,a3,n3,c3,d3,k3,e3,s4,a4,n4,c4,d4,k4,e4,b0,b1,b2,hx,hy,hE1⟩:=hcut;have hzz:w.heap.size+3<=wc.heap.size:=by have:=b2.lt;omega
  obtain⟨hxz,hxm,hxdn⟩:=hx.num;obtain⟨hyz,hym,hydn⟩:=hy.num;have hXc:HX (a0f X b 3) wc:=hX.boxes' hE1 (by have:=hzz;omega) hzz;have k00:=b0.cell 0 rfl;have k01:=b0.cell 1 rfl;have k02:=b0.cell 2 rfl;have k10:=b1.cell 0 rfl;have k11:=b1.cell 1 rfl;have k12:=b1.cell 2 rfl;have hEd:Ext wc wc.drew:=(ExtX.refl wc).drew;have hXd:HX (a0f X b 3) wc.drew:=hXc;have hxd:QC (mk (a0f X b 3) wc.drew) (.agg #[.bool s3, .slice a3 n3 c3, .slice d3 k3 e3]) x:=hx;have hyd:QC (mk (a0f X b 3) wc.drew) (.agg #[.bool s4, .slice a4 n4 c4, .slice d4 k4 e4]) y:=hy;have hxzd:ZC (mk (a0f X b 3) wc.drew) (.agg #[.bool s3, .slice a3 n3 c3]) x.num:=hxz;have hyzd:ZC (mk (a0f X b 3) wc.drew) (.agg #[.bool s4, .slice a4 n4 c4]) y.num:=hyz;have bxn:lg x.num.natAbs<=549755813888:=Nat.le_trans (Nat.le_trans (a0x x) hlx.out) (by omega);have byn:lg y.num.natAbs<=549755813888:=Nat.le_trans (Nat.le_trans (a0x y) hly.out) (by omega);have bxd:lg x.den<=549755813888:=Nat.le_trans (Nat.le_trans (a0y x) hlx.out) (by omega);have byd:lg y.den<=549755813888:=Nat.le_trans (Nat.le_trans (a0y y) hly.out) (by omega);have bp1:lg (x.num*(y.den:Int)).natAbs<=274877906944:=by rw[Int.natAbs_mul,Int.natAbs_natCast];have:=a0T x.num.natAbs y.den;have:=a0x x;have:=a0y y;have:=hlx.out;have:=hly.out;omega
  have bp2:lg (y.num*(x.den:Int)).natAbs<=274877906944:=by rw[Int.natAbs_mul,Int.natAbs_natCast];have:=a0T y.num.natAbs x.den;have:=a0x y;have:=a0y x;have:=hlx.out;have:=hly.out;omega
  have bdd:lg (x.den*y.den)<=274877906944:=by have:=a0T x.den y.den;have:=a0y x;have:=a0y y;have:=hlx.out;have:=hly.out;omega
  have bnn:lg (x.num*y.num).natAbs<=274877906944:=by rw[Int.natAbs_mul];have:=a0T x.num.natAbs y.num.natAbs;have:=a0x x;have:=a0x y;have:=hlx.out;have:=hly.out;omega
  have bd0:0<x.den*y.den:=Nat.mul_pos x.den_pos y.den_pos;have hB:=hid (And.intro b0 b1);have hS:Hid (∀W',Ext wc.drew W'->W'.cell? ⟨b,0,none⟩=some (.bool s3)/\W'.cell? ⟨b,1,none⟩=some (.slice a3 n3 c3)/\W'.cell? ⟨b,2,none⟩=some (.slice d3 k3 e3)/\W'.cell? ⟨b+1,0,none⟩=some (.bool s4)/\W'.cell? ⟨b+1,1,none⟩=some (.slice a4 n4 c4)/\W'.cell? ⟨b+1,2,none⟩=some (.slice d4 k4 e4)):=
   hid fun W' h=>⟨(b0.ext0 (hEd.trans h)).cell 0 rfl,(b0.ext0 (hEd.trans h)).cell 1 rfl,(b0.ext0 (hEd.trans h)).cell 2 rfl,(b1.ext0 (hEd.trans h)).cell 0 rfl,(b1.ext0 (hEd.trans h)).cell 1 rfl,(b1.ext0 (hEd.trans h)).cell 2 rfl⟩
  have bqx:hq x<=549755813888:=Nat.le_trans hlx.out (by decide);have bqy:hq y<=549755813888:=Nat.le_trans hly.out (by decide);have cxn:lg x.num.natAbs<=274877906944:=Nat.le_trans (Nat.le_trans (a0x x) hlx.out) (by omega);have cyn:lg y.num.natAbs<=274877906944:=Nat.le_trans (Nat.le_trans (a0x y) hly.out) (by omega);have cxd:lg (x.den:Int).natAbs<=274877906944:=Nat.le_trans (Nat.le_trans (a0y x) hlx.out) (by omega);have cyd:lg (y.den:Int).natAbs<=274877906944:=Nat.le_trans (Nat.le_trans (a0y y) hly.out) (by omega);have cdd:lg ((x.den:Int)*(y.den:Int)).natAbs<=274877906944:=by rw[<-Int.natCast_mul,Int.natAbs_natCast];exact bdd
  have cd0:(x.den:Int)*(y.den:Int)≠0:=Int.mul_ne_zero (by have:=x.den_nz;omega) (by have:=y.den_nz;omega);have cp2:lg ((x.den:Int)*y.num).natAbs<=274877906944:=by rw[Int.mul_comm];exact bp2
  have cq0:(x.den:Int)*y.num≠0:=Int.mul_ne_zero (by have:=x.den_nz;omega) (fun h=>hy0 (Rat.num_eq_zero.1 h));have hfin:Hid (((x.num*(y.den:Int):Int):Rat)/(((x.den:Int)*y.num:Int):Rat)=x/y):=hid (by rw[Int.mul_comm (x.den:Int)];exact b3Z x y);go_wp2_with fail
  go_region_held3 (fun w'=>w'.cell? ⟨b,0,none⟩=some (.bool s3)/\w'.cell? ⟨b,1,none⟩=some (.slice a3 n3 c3)/\w'.cell? ⟨b,2,none⟩=some (.slice d3 k3 e3)/\w'.cell? ⟨b+1,0,none⟩=some (.bool s4)/\w'.cell? ⟨b+1,1,none⟩=some (.slice a4 n4 c4)/\w'.cell? ⟨b+1,2,none⟩=some (.slice d4 k4 e4))
   (first|exact hS.out _ t1|exact hS.out _ t2|exact hS.out _ t3|exact hS.out _ t4|exact hS.out _ t5|exact⟨((hB.out.1.ext0 (hEd.trans t5)).ext (bb2.set3 _ _ _).2 (a0c (by omega))).cell 0 rfl,((hB.out.1.ext0 (hEd.trans t5)).ext (bb2.set3 _ _ _).2 (a0c (by omega))).cell 1 rfl,((hB.out.1.ext0 (hEd.trans t5)).ext (bb2.set3 _ _ _).2 (a0c (by omega))).cell 2 rfl,((hB.out.2.ext0 (hEd.trans t5)).ext (bb2.set3 _ _ _).2 (a0c (by omega))).cell 0 rfl,((hB.out.2.ext0 (hEd.trans t5)).ext (bb2.set3 _ _ _).2 (a0c (by omega))).cell 1 rfl,((hB.out.2.ext0 (hEd.trans t5)).ext (bb2.set3 _ _ _).2 (a0c (by omega))).cell 2 rfl⟩|go_keep)
   (first|(go_at_call 137;(with_reducible refine(a7A (a0f X b 3) wc.drew _ y hXd hyd bqy).mono ?_);rintro ee w5 ⟨t1,u5,rfl,hu5⟩;have hX5:=HX.ext hXd t1;have hx5:=mkx ZC.mono hxzd t1)|(go_at_call 136;(with_reducible refine(a8m (a0f X b 3) w5 _ _ x.num (y.den:Int) hX5 (hx5.zv (Nat.le_trans cxn (by decide))) (hu5.zv (Nat.le_trans cyd (by decide))) cxn cyd).mono ?_);rintro ee w6 ⟨hE6,u6,rfl,hu6⟩;have t2:=t1.trans hE6;have hX6:=HX.ext hXd t2;have hx6:=mkx QC.mono hxd t2)|(go_at_call 137;(with_reducible refine(a7A (a0f X b 3) w6 _ x hX6 hx6 bqx).mono ?_);rintro ee w7 ⟨hE7,u7,rfl,hu7⟩;have t3:=t2.trans hE7;have hX7:=HX.ext hXd t3;have hy7:=mkx ZC.mono hyzd t3)|(go_at_call 136;(with_reducible refine(a8m (a0f X b 3) w7 _ _ (x.den:Int) y.num hX7 (hu7.zv (Nat.le_trans cxd (by decide))) (hy7.zv (Nat.le_trans cyn (by decide))) cxd cyn).mono ?_);rintro ee w8 ⟨hE8,u8,rfl,hu8⟩;have t4:=t3.trans hE8;have hX8:=HX.ext hXd t4;have hz6:=mkx ZC.mono hu6 (hE7.trans hE8))|(go_at_call 113;(with_reducible refine(a9j (a0f X b 3) w8 _ _ _ _ hX8 hz6 hu8 bp1 cp2 cq0).mono ?_);rintro ee w9 ⟨hE9,u9,rfl,hu9⟩;have t5:=t4.trans hE9;obtain⟨s13,a13,n13,c13,d13,k13,e13,rfl⟩:=hu9.shape;have bb2:=b2.ext0 (hEd.trans t5);have g0:=bb2.cell 0 rfl;have g1:=bb2.cell 1 rfl;have g2:=bb2.cell 2 rfl;have f0:=bb2.frozen 0;have f1:=bb2.frozen 1;have f2:=bb2.frozen 2))
  rw[hfin.out]at hu9;obtain⟨r1,r2⟩:=bb2.set3 (.bool s13) (.slice a13 n13 c13) (.slice d13 k13 e13);have h7:=QC.mono _ _ _ _ a0l (QC.mono _ _ _ _ (a0g r2 (by omega) (by omega)) hu9);have hEf:Ext w _:=ExtX.box (hE1.trans (hEd.trans t5)) r2 (by omega);clear g0 g1 g2 f0 f1 f2 k00 k01 k02 k10 k11 k12 hS hB;go_wp2_with fail
  exact bodyPost_ret (a0e rfl rfl a0s r1 rfl) rfl ⟨hEf,_,rfl,h7⟩
set_option maxRecDepth 100000 in
theorem b4a (X:Nat->Bool) (w:World) (u v:Value) (l:List Rat) (c:Rat) (hX:HX X w) (hu:RV (mk X w) u l) (hv:QV (mk X w) v c) (hl:l.length<=1000000):Calls Tryz.prog 210 #[u,v] w (a1W X w RC (l.map (· *c))):=by
 obtain⟨ao,ca,rfl,hca,hsa0⟩:=hu;have hha:=hsa0.hd;obtain⟨s2,a2,n2,c2,d2,k2,e2,rfl⟩:=hv.shape;obtain⟨W,hW,hEW,b0,hz⟩:=a1m w #[.bool s2, .slice a2 n2 c2, .slice d2 k2 e2] 32;have hXW:HX X W:=hX.ext hEW;have hsa:=hsa0.mono QV.mono (a0h hEW);have hvW:=mkx QV.mono hv hEW;obtain⟨b,hb⟩:∃b,w.heap.size=b:=⟨_,rfl⟩;rw[hb]at b0 hz;obtain⟨L,hL⟩:∃L,l.map (· *c)=L:=⟨_,rfl⟩;have hLl:L.length=l.length:=by rw[<-hL];simp
 have hLi:=hid (show∀i (hi:i<l.length) (hi':i<L.length),L[i]=l[i]*c from fun i hi hi'=>by subst hL;simp);rw[hL];clear hL hsa0 hv;go_enter Tryz.func210,Tryz.ntmps210
 go_wp2_with fail
 go_loopw [5,6] (fun o cc wr=>∃(i:Nat) (oo:Option Addr) (co:Nat),cc= .int .i64 i/\o= .slice oo i co/\i<=l.length/\OL QC 3 X W.heap.size 32 wr oo co (L.take i)/\Ext W wr) (fun _ cc _=>l.length - (intOf cc).toNat)
 case atStart=>exact⟨0,none,0,rfl,rfl,Nat.zero_le _,OL.nil _ _ _ _ _ _,ExtX.refl _⟩
 case round=>
  obtain⟨i,oo,co,rfl,rfl,hi,hO,hE⟩:=hrel;have hXr:HX X wr:=hXW.ext hE;have hXu:HX (un X oo) wr:=hO.unX hXr;have hbase:=hE.size;by_cases hlt:i<l.length
  ·have hsr:Sl QV 3 (mk (un X oo) wr) ao l:=hsa.old QV.mono hE (fun j hj=>hO.ob_lt hj)
   have hltL:i<L.length:=by omega
   have htk:=hid (a1V L i hltL);have hln:=hid (a2s (l:=L) (i:=i) (by omega));obtain⟨g1,o1,s1,a1,n1,c1,d1,k1,e1,hg1,hX1,hc1,hq1⟩:=hsr.rat QV.shaped i hlt;have hob1:=(a1p hX1).2;have hobb:ob oo b=false:=hO.ob_lt (by omega);have i1:∀W,(Instr.indexAt 45 (.slice ao l.length ca) (.int .i64 (i:Int))).run Tryz.prog W= .ok (.pointer (some ⟨g1,o1,none⟩)) W:=by rw[<-hg1];exact a0k a1c ao l.length ca .i64 i hha (by omega)
   have hEd:Ext wr wr.drew:=(ExtX.refl wr).drew;have hS:Hid (∀Y W',ExtX Y wr.drew W'->Y g1=false->Y b=false->W'.cell? ⟨g1,o1,none⟩=some (.bool s1)/\W'.cell? ⟨g1,o1+1,none⟩=some (.slice a1 n1 c1)/\W'.cell? ⟨g1,o1+2,none⟩=some (.slice d1 k1 e1)/\W'.cell? ⟨b,0,none⟩=some (.bool s2)/\W'.cell? ⟨b,1,none⟩=some (.slice a2 n2 c2)/\W'.cell? ⟨b,2,none⟩=some (.slice d2 k2 e2)):=hid fun Y W' h hg hb=>by
    have p1:=hc1.out Y W' ((ExtX.of hEd).trans h) hg;have b1:=(b0.ext0 (hE.trans hEd)).ext h hb;exact⟨p1.1,p1.2.1,p1.2.2,b1.cell 0 rfl,b1.cell 1 rfl,b1.cell 2 rfl⟩
   obtain⟨k00,k01,k02,k10,k11,k12⟩:=hS.out noY wr.drew (ExtX.refl _) rfl rfl;have hxd:QV (mk (un X oo) wr.drew) (.agg #[.bool s1, .slice a1 n1 c1, .slice d1 k1 e1]) l[i]:=hq1;have hvd:QV (mk (un X oo) wr.drew) (.agg #[.bool s2, .slice a2 n2 c2, .slice d2 k2 e2]) c:=a9h QV.mono hvW (hE.trans hEd) (fun j hj=>hO.ob_lt hj);have hXd:HX (un X oo) wr.drew:=hXu;have hyi:=hLi.out i hlt hltL;rw[hyi]at htk;clear hc1 hg1 hq1;go_wp2_with fail
   go_region_held3 (fun w'=>w'.cell? ⟨g1,o1,none⟩=some (.bool s1)/\w'.cell? ⟨g1,o1+1,none⟩=some (.slice a1 n1 c1)/\w'.cell? ⟨g1,o1+2,none⟩=some (.slice d1 k1 e1)/\w'.cell? ⟨b,0,none⟩=some (.bool s2)/\w'.cell? ⟨b,1,none⟩=some (.slice a2 n2 c2)/\w'.cell? ⟨b,2,none⟩=some (.slice d2 k2 e2))
    (first|exact hS.out noY _ t1 rfl rfl|exact hS.out noY _ (ExtX.alloc t1 _) rfl rfl|exact hS.out (ob oo) _ ((ExtX.of t1).trans hE7) hob1 hobb|go_keep)
    (first|(go_at_call 77;(with_reducible refine(b2O (un X oo) wr.drew _ _ _ c hXd hxd hvd).mono ?_);rintro ee w6 ⟨t1,u6,rfl,hu6⟩;obtain⟨s6,a6,n6,c6,d6,k6,e6,rfl⟩:=hu6.shape;have hO6:=hO.ext0 QC.elem (hEd.trans t1);have hb6:=(hEd.trans t1).size;have hX6:=hXr.ext (hEd.trans t1))|(refine a2K (l:=L.take i) rfl (by rfl) a1c rfl QC.elem (by omega) hX6 i hln.out rfl rfl hO6 (.agg #[.bool s6, .slice a6 n6 c6, .slice d6 k6 e6]) (l[i]*c) rfl hu6 (by omega) (by omega) ?_;intro oo2 co2 w7 hO7 hE7 hor))
   have hE8:=(hE.trans (hEd.trans t1)).own hO6 (Nat.le_refl _) hE7;rw[htk.out]at hO7;clear k00 k01 k02 k10 k11 k12;go_wp2_with fail
   go_roundw
   case rel=>exact⟨i+1,oo2,co2,by go_num,by go_num,by omega,hO7,hE8⟩
   case measure=>simp[intOf];omega
  ·have hil:i=l.length:=by omega
   subst hil;rw[List.take_of_length_le (by omega)]at hO;have hc:=hO.lenCap;have hs:=hO.sl QC.elem;go_wp2_with fail
   go_ret
   exact⟨hEW.trans hE,_,rfl,oo,co,by rw[hLl];rfl,hc,hs⟩
set_option maxRecDepth 100000 in
theorem b6Y (X:Nat->Bool) (w:World) (u v:Value) (l m:List Rat) (hX:HX X w) (hu:RV (mk X w) u l) (hv:RV (mk X w) v m) (hl:l.length<=1000000) (hml:m.length=l.length):Calls Tryz.prog 212 #[u,v] w (a1W X w RC (List.zipWith (· + ·) l m)):=by
 obtain⟨ao,ca,rfl,hca,hsa⟩:=hu;have hha:=hsa.hd;obtain⟨bo,cb,rfl,hcb,hsb⟩:=hv;have hhb:=hsb.hd;have hml1:m.length<=l.length:=by omega
 have hml2:l.length<=m.length:=by omega
 obtain⟨L,hL⟩:∃L,List.zipWith (· + ·) l m=L:=⟨_,rfl⟩;have hLl:L.length=l.length:=by rw[<-hL];simp;omega
 have hLi:=hid (show∀i (hi:i<l.length) (hj:i<m.length) (hi':i<L.length),L[i]=l[i]+m[i]from fun i hi hj hi'=>by subst hL;simp);rw[hL];have hLl1:L.length<=l.length:=by omega
 have hLl2:l.length<=L.length:=by omega
 have hLl':=hid hLl;clear hL hml hLl;go_enter Tryz.func212,Tryz.ntmps212
 go_wp2_with fail
 go_loopw [5,6] (fun o cc wr=>∃(i:Nat) (oo:Option Addr) (co:Nat),cc= .int .i64 i/\o= .slice oo i co/\i<=l.length/\OL QC 3 X w.heap.size 32 wr oo co (L.take i)/\Ext w wr) (fun _ cc _=>l.length - (intOf cc).toNat)
 case atStart=>exact⟨0,none,0,rfl,rfl,Nat.zero_le _,OL.nil _ _ _ _ _ _,ExtX.refl _⟩
 case round=>
  obtain⟨i,oo,co,rfl,rfl,hi,hO,hE⟩:=hrel;have hXr:HX X wr:=hX.ext hE;have hXu:HX (un X oo) wr:=hO.unX hXr;have hbase:=hE.size;by_cases hlt:i<l.length
  ·have hsr:Sl QV 3 (mk (un X oo) wr) ao l:=hsa.old QV.mono hE (fun j hj=>hO.ob_lt hj)
   have hltL:i<L.length:=by omega
   have htk:=hid (a1V L i hltL);have hln:=hid (a2s (l:=L) (i:=i) (by omega));have hltm:i<m.length:=by omega
   have hsr2:Sl QV 3 (mk (un X oo) wr) bo m:=hsb.old QV.mono hE (fun j hj=>hO.ob_lt hj);obtain⟨g2,o2,s2,a2,n2,c2,d2,k2,e2,hg2,hX2,hc2,hq2⟩:=hsr2.rat QV.shaped i hltm;obtain⟨g1,o1,s1,a1,n1,c1,d1,k1,e1,hg1,hX1,hc1,hq1⟩:=hsr.rat QV.shaped i hlt;have hob1:=(a1p hX1).2;have hobb:=(a1p hX2).2;have i2:∀W,(Instr.indexAt 45 (.slice bo m.length cb) (.int .i64 (i:Int))).run Tryz.prog W= .ok (.pointer (some ⟨g2,o2,none⟩)) W:=by rw[<-hg2];exact a0k a1c bo m.length cb .i64 i hhb (by omega)
   have i1:∀W,(Instr.indexAt 45 (.slice ao l.length ca) (.int .i64 (i:Int))).run Tryz.prog W= .ok (.pointer (some ⟨g1,o1,none⟩)) W:=by rw[<-hg1];exact a0k a1c ao l.length ca .i64 i hha (by omega)
   have hEd:Ext wr wr.drew:=(ExtX.refl wr).drew;have hS:Hid (∀Y W',ExtX Y wr.drew W'->Y g1=false->Y g2=false->W'.cell? ⟨g1,o1,none⟩=some (.bool s1)/\W'.cell? ⟨g1,o1+1,none⟩=some (.slice a1 n1 c1)/\W'.cell? ⟨g1,o1+2,none⟩=some (.slice d1 k1 e1)/\W'.cell? ⟨g2,o2,none⟩=some (.bool s2)/\W'.cell? ⟨g2,o2+1,none⟩=some (.slice a2 n2 c2)/\W'.cell? ⟨g2,o2+2,none⟩=some (.slice d2 k2 e2)):=hid fun Y W' h hg hb=>by
    have p1:=hc1.out Y W' ((ExtX.of hEd).trans h) hg;have p2:=hc2.out Y W' ((ExtX.of hEd).trans h) hb;exact⟨p1.1,p1.2.1,p1.2.2,p2.1,p2.2.1,p2.2.2⟩
   obtain⟨k00,k01,k02,k10,k11,k12⟩:=hS.out noY wr.drew (ExtX.refl _) rfl rfl;have hxd:QV (mk (un X oo) wr.drew) (.agg #[.bool s1, .slice a1 n1 c1, .slice d1 k1 e1]) l[i]:=hq1;have hvd:QV (mk (un X oo) wr.drew) (.agg #[.bool s2, .slice a2 n2 c2, .slice d2 k2 e2]) m[i]:=hq2;have hXd:HX (un X oo) wr.drew:=hXu;have hyi:=hLi.out i hlt hltm hltL;rw[hyi]at htk;clear hc1 hg1 hq1 hc2 hg2 hq2;go_wp2_with fail
   go_region_held3 (fun w'=>w'.cell? ⟨g1,o1,none⟩=some (.bool s1)/\w'.cell? ⟨g1,o1+1,none⟩=some (.slice a1 n1 c1)/\w'.cell? ⟨g1,o1+2,none⟩=some (.slice d1 k1 e1)/\w'.cell? ⟨g2,o2,none⟩=some (.bool s2)/\w'.cell? ⟨g2,o2+1,none⟩=some (.slice a2 n2 c2)/\w'.cell? ⟨g2,o2+2,none⟩=some (.slice d2 k2 e2))
    (first|exact hS.out noY _ t1 rfl rfl|exact hS.out noY _ (ExtX.alloc t1 _) rfl rfl|exact hS.out (ob oo) _ ((ExtX.of t1).trans hE7) hob1 hobb|go_keep)
    (first|(go_at_call 98;(with_reducible refine(b2N (un X oo) wr.drew _ _ _ _ hXd hxd hvd).mono ?_);rintro ee w6 ⟨t1,u6,rfl,hu6⟩;obtain⟨s6,a6,n6,c6,d6,k6,e6,rfl⟩:=hu6.shape;have hO6:=hO.ext0 QC.elem (hEd.trans t1);have hb6:=(hEd.trans t1).size;have hX6:=hXr.ext (hEd.trans t1))|(refine a2K (l:=L.take i) rfl (by rfl) a1c rfl QC.elem (by omega) hX6 i hln.out rfl rfl hO6 (.agg #[.bool s6, .slice a6 n6 c6, .slice d6 k6 e6]) (l[i]+m[i]) rfl hu6 (by omega) (by omega) ?_;intro oo2 co2 w7 hO7 hE7 hor))
   have hE8:=(hE.trans (hEd.trans t1)).own hO6 (Nat.le_refl _) hE7;rw[htk.out]at hO7;clear k00 k01 k02 k10 k11 k12;go_wp2_with fail
   go_roundw
   case rel=>exact⟨i+1,oo2,co2,by go_num,by go_num,by omega,hO7,hE8⟩
   case measure=>simp[intOf];omega
  ·have hil:i=l.length:=by omega
   subst hil;rw[List.take_of_length_le (by omega)]at hO;have hc:=hO.lenCap;have hs:=hO.sl QC.elem;go_wp2_with fail
   go_ret
   exact⟨hE,_,rfl,oo,co,by rw[hLl'.out];rfl,hc,hs⟩
set_option maxRecDepth 100000 in
theorem b4S (X:Nat->Bool) (w:World) (u v:Value) (x y:Rat) (hX:HX X w) (hu:QV (mk X w) u x) (hv:QV (mk X w) v y):Calls Tryz.prog 86 #[u,v] w (a1W X w QC (x - y)):=by
 have hlx:=hid hu.hq;have hly:=hid hv.hq;obtain⟨s1,a1,n1,c1,d1,k1,e1,rfl⟩:=hu.shape;obtain⟨s2,a2,n2,c2,d2,k2,e2,rfl⟩:=hv.shape;obtain⟨W,hW,hE,b0,b1,b2,hz⟩:=a1X w #[.bool s1, .slice a1 n1 c1, .slice d1 k1 e1] #[.bool s2, .slice a2 n2 c2, .slice d2 k2 e2] #[.bool false, .slice none 0 0, .slice none 0 0] 32 32 32;have hXW:HX (a0f X w.heap.size 3) W:=hX.boxes hz;have hu1:=QV.mono _ _ _ _ (a0m (nb:=3) hE) hu;have hv1:=QV.mono _ _ _ _ (a0m (nb:=3) hE) hv;obtain⟨b,hb⟩:∃b,w.heap.size=b:=⟨_,rfl⟩;have hbw:w.heap.size<=b:=by omega
 rw[hb]at b0 b1 b2 hz hXW hu1 hv1;have hEd:Ext W W.drew:=(ExtX.refl W).drew;have hXd:HX (a0f X b 3) W.drew:=hXW;have hud:QV (mk (a0f X b 3) W.drew) (.agg #[.bool s1, .slice a1 n1 c1, .slice d1 k1 e1]) x:=hu1;have hvd:QV (mk (a0f X b 3) W.drew) (.agg #[.bool s2, .slice a2 n2 c2, .slice d2 k2 e2]) y:=hv1;have k00:=b0.cell 0 rfl;have k01:=b0.cell 1 rfl;have k02:=b0.cell 2 rfl;have k10:=b1.cell 0 rfl;have k11:=b1.cell 1 rfl;have k12:=b1.cell 2 rfl;clear hu hv;have hB:=hid (And.intro b0 b1);have hS:Hid (∀W',Ext W.drew W'->W'.cell? ⟨b,0,none⟩=some (.bool s1)/\W'.cell? ⟨b,1,none⟩=some (.slice a1 n1 c1)/\W'.cell? ⟨b,2,none⟩=some (.slice d1 k1 e1)/\W'.cell? ⟨b+1,0,none⟩=some (.bool s2)/\W'.cell? ⟨b+1,1,none⟩=some (.slice a2 n2 c2)/\W'.cell? ⟨b+1,2,none⟩=some (.slice d2 k2 e2)):=
  hid fun W' h=>⟨(b0.ext0 (hEd.trans h)).cell 0 rfl,(b0.ext0 (hEd.trans h)).cell 1 rfl,(b0.ext0 (hEd.trans h)).cell 2 rfl,(b1.ext0 (hEd.trans h)).cell 0 rfl,(b1.ext0 (hEd.trans h)).cell 1 rfl,(b1.ext0 (hEd.trans h)).cell 2 rfl⟩
 have hny:=hid (show hq (-y)<=68719476736 by rw[a3P];exact hly.out);have hsum:Hid (x+ -y=x - y):=hid (Rat.sub_eq_add_neg x y).symm;go_enter Tryz.func86,Tryz.ntmps86
 go_upto_region 1 with(fail)
 go_region_held3 (fun w'=>w'.cell? ⟨b,0,none⟩=some (.bool s1)/\w'.cell? ⟨b,1,none⟩=some (.slice a1 n1 c1)/\w'.cell? ⟨b,2,none⟩=some (.slice d1 k1 e1)/\w'.cell? ⟨b+1,0,none⟩=some (.bool s2)/\w'.cell? ⟨b+1,1,none⟩=some (.slice a2 n2 c2)/\w'.cell? ⟨b+1,2,none⟩=some (.slice d2 k2 e2))
  (first|exact hS.out _ t1|exact hS.out _ t2|exact⟨((hB.out.1.ext0 (hEd.trans t2)).ext (bb2.set3 _ _ _).2 (a0c (by omega))).cell 0 rfl,((hB.out.1.ext0 (hEd.trans t2)).ext (bb2.set3 _ _ _).2 (a0c (by omega))).cell 1 rfl,((hB.out.1.ext0 (hEd.trans t2)).ext (bb2.set3 _ _ _).2 (a0c (by omega))).cell 2 rfl,((hB.out.2.ext0 (hEd.trans t2)).ext (bb2.set3 _ _ _).2 (a0c (by omega))).cell 0 rfl,((hB.out.2.ext0 (hEd.trans t2)).ext (bb2.set3 _ _ _).2 (a0c (by omega))).cell 1 rfl,((hB.out.2.ext0 (hEd.trans t2)).ext (bb2.set3 _ _ _).2 (a0c (by omega))).cell 2 rfl⟩|go_keep)
  (first|(go_at_call 147;(with_reducible refine(b4R (a0f X b 3) W.drew _ y hXd hvd).mono ?_);rintro ee w5 ⟨t1,u5,rfl,hu5⟩;have hX5:=HX.ext hXd t1;have hx5:=mkx QV.mono hud t1)|(go_at_call 98;(with_reducible refine(b2N (a0f X b 3) w5 _ _ x (-y) hX5 hx5 (hu5.qv hny.out)).mono ?_);rintro ee w6 ⟨hE6,u6,rfl,hu6⟩;obtain⟨s6,a6,n6,c6,d6,k6,e6,rfl⟩:=hu6.shape;have t2:=t1.trans hE6;have bb2:=b2.ext0 (hEd.trans t2);have g0:=bb2.cell 0 rfl;have g1:=bb2.cell 1 rfl;have g2:=bb2.cell 2 rfl;have f0:=bb2.frozen 0;have f1:=bb2.frozen 1;have f2:=bb2.frozen 2))
 rw[hsum.out]at hu6;obtain⟨q1,q2⟩:=bb2.set3 (.bool s6) (.slice a6 n6 c6) (.slice d6 k6 e6);have h7:=QC.mono _ _ _ _ a0l (QC.mono _ _ _ _ (a0g q2 (by omega) (by omega)) hu6);have hEf:Ext w _:=ExtX.box (hE.trans (hEd.trans t2)) q2 (by omega);clear g0 g1 g2 f0 f1 f2 k00 k01 k02 k10 k11 k12 hS hB;go_wp2_with fail
 exact bodyPost_ret (a0e rfl rfl a0s q1 rfl) rfl ⟨hEf,_,rfl,h7⟩
set_option maxRecDepth 100000 in
theorem a7C (X:Nat->Bool) (w:World) (u v:Value) (x y:Rat) (hX:HX X w) (hu:QV (mk X w) u x) (hv:QV (mk X w) v y) (hxy:hq (x - y)<=68719476736):Calls Tryz.prog 32 #[u,v] w (a3o w (x - y).num.sign):=by
 have hlx:=hid hu.hq;have hly:=hid hv.hq;obtain⟨s1,a1,n1,c1,d1,k1,e1,rfl⟩:=hu.shape;obtain⟨s2,a2,n2,c2,d2,k2,e2,rfl⟩:=hv.shape;obtain⟨W,hW,hE,b0,b1,hz⟩:=a1I w #[.bool s1, .slice a1 n1 c1, .slice d1 k1 e1] #[.bool s2, .slice a2 n2 c2, .slice d2 k2 e2] 32 32;have hXW:HX (a0f X w.heap.size 2) W:=hX.boxes hz;have hu1:=QV.mono _ _ _ _ (a0m (nb:=2) hE) hu;have hv1:=QV.mono _ _ _ _ (a0m (nb:=2) hE) hv;obtain⟨b,hb⟩:∃b,w.heap.size=b:=⟨_,rfl⟩;have hbw:w.heap.size<=b:=by omega
 rw[hb]at b0 b1 hz hXW hu1 hv1;have hEd:Ext W W.drew:=(ExtX.refl W).drew;have hXd:HX (a0f X b 2) W.drew:=hXW;have hud:QV (mk (a0f X b 2) W.drew) (.agg #[.bool s1, .slice a1 n1 c1, .slice d1 k1 e1]) x:=hu1;have hvd:QV (mk (a0f X b 2) W.drew) (.agg #[.bool s2, .slice a2 n2 c2, .slice d2 k2 e2]) y:=hv1;have k00:=b0.cell 0 rfl;have k01:=b0.cell 1 rfl;have k02:=b0.cell 2 rfl;have k10:=b1.cell 0 rfl;have k11:=b1.cell 1 rfl;have k12:=b1.cell 2 rfl;clear hu hv
 replace hxy:=hid hxy
 obtain⟨q,hq'⟩:∃q:Rat,x - y=q:=⟨_,rfl⟩;rw[hq']at hxy |-;have hq2:=hid hq';clear hq';go_enter Tryz.func32,Tryz.ntmps32
 go_wp2_with fail
 refine(b4S (a0f X b 2) W _ _ x y hXW hu1 hv1).mono ?_;rintro e w5 ⟨hE5,u5,rfl,hu5⟩;rw[hq2.out]at hu5;obtain⟨s5,a5,n5,c5,d5,k5,e5,rfl⟩:=hu5.shape;clear k00 k01 k02 k10 k11 k12;go_wp2_with fail
 refine(a9k (a0f X b 2) w5 _ q (hXW.ext hE5) (hu5.qv hxy.out)).mono ?_;rintro e w6 ⟨hE6,rfl⟩;go_wp2_with fail
 go_ret
 exact⟨hE.trans (hE5.trans hE6),rfl⟩
set_option maxRecDepth 100000 in
theorem a6s (X:Nat->Bool) (w:World) (a k:Int) (hX:HX X w) (h1: -9223372036854775808<=a) (h2:a<=9223372036854775807) (h3: -9223372036854775808<=k) (h4:k<=9223372036854775807) (hk:k≠0) (ha:lg a.natAbs<=274877906944) (hkl:lg k.natAbs<=274877906944):Calls Tryz.prog 50 #[.int .i64 a, .int .i64 k] w (a1W X w QC ((a:Rat)/(k:Rat))):=by
 obtain⟨W,hW,hE,b0,hz⟩:=a1m w #[.bool false, .slice none 0 0, .slice none 0 0] 32;have hXW:HX (a0f X w.heap.size 1) W:=hX.boxes hz;obtain⟨b,hb⟩:∃b,w.heap.size=b:=⟨_,rfl⟩;have hbw:w.heap.size<=b:=by omega
 rw[hb]at b0 hz hXW;have hI:=hid (And.intro (And.intro h1 h2) (And.intro (And.intro h3 h4) (And.intro hk (And.intro ha hkl))));clear h1 h2 h3 h4 hk ha hkl;go_enter Tryz.func50,Tryz.ntmps50
 go_wp2_with fail
 refine(b0X (a0f X b 1) W a hXW hI.out.1.1 hI.out.1.2).mono ?_;rintro e1 w1 ⟨hE1,u1,rfl,hu1⟩;have hX1:=hXW.ext hE1;go_wp2_with fail
 refine(b0X (a0f X b 1) w1 k hX1 hI.out.2.1.1 hI.out.2.1.2).mono ?_;rintro e2 w2 ⟨hE2,u2,rfl,hu2⟩;go_wp2_with fail
 refine(a9j (a0f X b 1) w2 _ _ a k (hX1.ext hE2) (mkx ZC.mono hu1 hE2) hu2 hI.out.2.2.2.1 hI.out.2.2.2.2 hI.out.2.2.1).mono ?_;rintro e3 w3 ⟨hE3,u3,rfl,hu3⟩;obtain⟨s5,a5,n5,c5,d5,k5,e5,rfl⟩:=hu3.shape;have bb:=((b0.ext0 hE1).ext0 hE2).ext0 hE3;go_wp2_with ((with_reducible show wpList _ _ _ (⟨_, .store _ _ _,_,_,_,_⟩::_) _ _);refine a0d a0s rfl rfl bb rfl rfl (a2n _ _ _ _ _ _ _) ?_;intro w7 r1 r2)
 have h7:=QC.mono _ _ _ _ a0l (QC.mono _ _ _ _ (a0g r2 (by omega) (by omega)) hu3);exact bodyPost_ret (a0e rfl rfl a0s r1 rfl) rfl ⟨ExtX.box (hE.trans (hE1.trans (hE2.trans hE3))) r2 (by omega),_,rfl,h7⟩
open Go.Lin
def b6Z (X:Nat->Bool) (w:World) (l:List (List Rat)) (e:Ending) (w':World):Prop:=Ext w w'/\∃oo co,e= .returned (.slice oo l.length co)/\OL RC 1 X w.heap.size 45 w' oo co l
set_option maxRecDepth 100000 in
theorem b4T (X:Nat->Bool) (w:World) (u:Value) (l:List (List Rat)) (hX:HX X w) (hu:MV (mk X w) u l) (hl:l.length<=1000000) (hrl:∀r∈l,r.length<=1000000):Calls Tryz.prog 209 #[u] w (b6Z X w l):=by
 obtain⟨ao,ca,rfl,hca,hsa⟩:=hu;have hha:=hsa.hd;have hrl':=hid hrl;clear hrl;go_enter Tryz.func209,Tryz.ntmps209
 go_wp2_with fail
 go_loopw [3,4] (fun o c wr=>∃(i:Nat) (oo:Option Addr) (co:Nat),c= .int .i64 i/\o= .slice oo i co/\i<=l.length/\OL RC 1 X w.heap.size 45 wr oo co (l.take i)/\Ext w wr) (fun _ c _=>l.length - (intOf c).toNat)
 case atStart=>exact⟨0,none,0,rfl,rfl,Nat.zero_le _,OL.nil _ _ _ _ _ _,ExtX.refl _⟩
 case round=>
  obtain⟨i,oo,co,rfl,rfl,hi,hO,hE⟩:=hrel;have hXr:HX X wr:=hX.ext hE;have hXu:HX (un X oo) wr:=hO.unX hXr;have hbase:=hE.size;by_cases hlt:i<l.length
  ·have hsr:Sl RV 1 (mk (un X oo) wr) ao l:=hsa.old RV.mono hE (fun j hj=>hO.ob_lt hj)
   have htk:=hid (a1V l i hlt);have hln:=hid (a2s hi);obtain⟨a1,c1,hX1,hc1,hcl1,hq1⟩:=hsr.row i hlt;have k00:=hc1.out noY wr (ExtX.refl _) rfl;have hlr:=hid (hrl'.out l[i] (List.getElem_mem _));go_wp2_with (with_reducible refine a0o a0A (by omega) (by assumption) ?_)
   refine(a9V (un X oo) wr _ l[i] hXu ⟨a1,c1,rfl,hcl1,hq1⟩ hlr.out).mono ?_;rintro e w6 ⟨hE6,u6,rfl,hu6⟩;obtain⟨a6,c6,rfl,hcl6,hs6⟩:=hu6;have hO6:=hO.ext0 RC.elem hE6;have hb6:=hE6.size;clear k00;go_wp2_with (at_builtin;refine a0H (l:=l.take i) a0A rfl RC.elem (by omega) (hXr.ext hE6) i hln.out rfl rfl hO6 (.slice a6 l[i].length c6) l[i] rfl ⟨a6,c6,rfl,hcl6,hs6⟩ (by omega) (by omega) ?_;intro oo2 co2 w7 hO7 hE7 hor)
   have hE8:=(hE.trans hE6).own hO6 (Nat.le_refl _) hE7;rw[htk.out]at hO7;go_roundw
   case rel=>exact⟨i+1,oo2,co2,by go_num,by go_num,by omega,hO7,hE8⟩
   case measure=>simp[intOf];omega
  ·have hil:i=l.length:=by omega
   subst hil;rw[List.take_length]at hO;go_wp2_with fail
   go_ret
   exact⟨hE,oo,co,rfl,hO⟩
end Go.Proofs.YtoibhmjjhgaimaaGreat
namespace Go.Lin
def a1z {α:Type} (m:List (List α)):Bool:=decide (m.length<=96)&&m.all fun r=>decide (1<=r.length/\r.length<=96/\r.length=(m.getD 0 []).length)
def a0L {α:Type} (m:List (List α)):Nat:=(m.getD 0 []).length
theorem a1A {α:Type} {m:List (List α)}:a1z m=true↔m.length<=96/\∀i (hi:i<m.length),1<=m[i].length/\m[i].length<=96/\m[i].length=a0L m:=by
 unfold a1z a0L;rw[Bool.and_eq_true,decide_eq_true_eq,List.all_eq_true];constructor
 ·rintro ⟨h1,h2⟩
  exact⟨h1,fun i hi=>by simpa using h2 _ (List.getElem_mem hi)⟩
 ·rintro ⟨h1,h2⟩
  refine⟨h1,fun r hr=>?_⟩;obtain⟨i,hi,rfl⟩:=List.getElem_of_mem hr;simpa using h2 i hi
theorem a4y {α:Type} {m:List (List α)} (i:Nat) (hi:i<m.length) (h:¬(1<=m[i].length/\m[i].length<=96/\m[i].length=a0L m)):false=a1z m:=by
 symm;cases hf:a1z m
 ·rfl
 ·exact absurd ((a1A.1 hf).2 i hi) h
theorem a2g {α:Type} {m:List (List α)} (h:0<m.length):a0L m=m[0].length:=by simp[a0L,List.getD_eq_getElem?_getD,h]
theorem a5K {m:List (List Rat)} (h:a1z m=true):Shp m.length (a0L m) m/\m.length<=96/\a0L m<=96/\(0<m.length->1<=a0L m)/\(m.length=0->a0L m=0):=by
 have h1:=a1A.1 h;refine⟨⟨rfl,fun r hr=>?_⟩,h1.1,?_,fun h0=>?_,fun h0=>?_⟩
 ·obtain⟨i,hi,rfl⟩:=List.getElem_of_mem hr
  exact(h1.2 i hi).2.2
 ·by_cases h0:0<m.length
  ·have:=h1.2 0 h0;omega
  ·have:m= []:=List.eq_nil_of_length_eq_zero (by omega)
   subst this;simp[a0L]
 ·have:=h1.2 0 h0;omega
 ·have:m= []:=List.eq_nil_of_length_eq_zero h0
  subst this;rfl
end Go.Lin
namespace Go.Proofs.YtoibhmjjhgaimaaGreat
open Go.RowKit Go.Rep Go.Lim Go.Lin
theorem a4a {R:Mem->Value->Rat->Prop} (X:Nat->Bool) (w:World) (u:Value) (m:List (List Rat)) (hu:SlV (SlV R 3) 1 (mk X w) u m):Calls Tryz.prog 216 #[u] w (fun e w'=>w'=w/\e= .returned (.int .i64 (a0L m:Int))):=by
 obtain⟨ao,ca,rfl,hca,hsa⟩:=hu;have hha:=hsa.hd;by_cases h:0<m.length
 ·obtain⟨a1,c1,hX1,hc1,hcl1,hq1⟩:=hsa.row 0 h
  have k00:=hc1.out noY w (ExtX.refl _) rfl;have hc:=hid (a2g h);have hI:((m.length:Int)==0)=false:=a2f (by omega);go_enter Tryz.func216,Tryz.ntmps216
  go_wp2_with (with_reducible refine a0o a0A (by omega) (by assumption) ?_)
  go_ret
  exact⟨rfl,a0K (by rw[hc.out])⟩
 ·have hc:Hid (a0L m=0):=hid (by
   have:m= []:=List.eq_nil_of_length_eq_zero (by omega);subst this;rfl)
  have hI:((m.length:Int)==0)=true:=a8d (by omega);go_enter Tryz.func216,Tryz.ntmps216
  go_wp2_with (with_reducible refine a0o a0A (by omega) (by assumption) ?_)
  go_ret
  exact⟨rfl,a0K (by rw[hc.out];rfl)⟩
set_option maxRecDepth 100000 in
theorem a9W {R:Mem->Value->Rat->Prop} (X:Nat->Bool) (w:World) (u:Value) (m:List (List Rat)) (hu:SlV (SlV R 3) 1 (mk X w) u m) (hl:m.length<=1099511627776):Calls Tryz.prog 215 #[u] w (fun e w'=>w'=w/\e= .returned (.bool (a1z m))):=by
 obtain⟨ao,ca,rfl,hca,hsa⟩:=hu;have hha:=hsa.hd;by_cases h96:96<m.length
 ·have hv:Hid (false=a1z m):=hid (by
   symm;cases hf:a1z m
   ·rfl
   ·have:=(a1A.1 hf).1;omega)
  have hI:(96:Int)<(m.length:Int):=by omega
  go_enter Tryz.func215,Tryz.ntmps215
  go_wp2_with fail
  go_ret
  exact⟨rfl,a0j hv.out⟩
 ·have hI:¬(96:Int)<(m.length:Int):=by omega
  go_enter Tryz.func215,Tryz.ntmps215
  go_wp2_with fail
  go_loop [10] (fun c=>∃(i:Nat),c= .int .i64 i/\i<=m.length/\Hid (∀q,q<i->∀hq:q<m.length,1<=m[q].length/\m[q].length<=96/\m[q].length=a0L m)) (fun c=>m.length - (intOf c).toNat)
  case atStart=>exact⟨0,rfl,Nat.zero_le _,fun q hq=>by omega⟩
  case round=>
   obtain⟨i,rfl,hi,hok⟩:=hrel;by_cases hlt:i<m.length
   ·have h0:0<m.length:=by omega
    obtain⟨a1,c1,hX1,hc1,hcl1,hq1⟩:=hsa.row i hlt;obtain⟨a2,c2,hX2,hc2,hcl2,hq2⟩:=hsa.row 0 h0;have k00:=hc1.out noY w (ExtX.refl _) rfl;have k10:=hc2.out noY w (ExtX.refl _) rfl;have hcol:=a2g h0;have hno:=hid (a4y i hlt);rw[<-hcol]at k10;obtain⟨x,hx⟩:∃x,m[i].length=x:=⟨_,rfl⟩;obtain⟨y,hy⟩:∃y,a0L m=y:=⟨_,rfl⟩;rw[hx]at k00 hno;rw[hy]at k10 hno;have hst:Hid (1<=x/\x<=96/\x=y->∀hq:i<m.length,1<=m[i].length/\m[i].length<=96/\m[i].length=a0L m):=hid fun h hq=>by rw[hx,hy];exact h
    clear hx hy hcol hc1 hc2 hq1 hq2 hcl1 hcl2;by_cases hx0:x=0
    ·have d0:((x:Int)==0)=true:=a8d (by omega)
     have hv:=hid (hno.out (by omega));clear hx0;go_wp2_with (with_reducible refine a0o a0A (by omega) (by assumption) ?_)
     go_ret
     exact⟨rfl,a0j hv.out⟩
    ·have d0:((x:Int)==0)=false:=a2f (by omega)
     by_cases hx1:96<x
     ·have d1:(96:Int)<(x:Int):=by omega
      have hv:=hid (hno.out (by omega));clear hx0;go_wp2_with (with_reducible refine a0o a0A (by omega) (by assumption) ?_)
      go_ret
      exact⟨rfl,a0j hv.out⟩
     ·have d1:¬(96:Int)<(x:Int):=by omega
      by_cases hxy:x=y
      ·have d2:((x:Int) !=(y:Int))=false:=b2t (by omega)
       have hst2:=hid (hst.out ⟨by omega,by omega,hxy⟩);clear hx0 hxy;go_wp2_with (with_reducible refine a0o a0A (by omega) (by assumption) ?_)
       go_round
       case rel=>exact⟨i+1,by go_num,by omega,a0Y hok.out hst2.out⟩
       case measure=>simp[intOf];omega
      ·have d2:((x:Int) !=(y:Int))=true:=a7i (by omega)
       have hv:=hid (hno.out (by omega));clear hx0 hxy;go_wp2_with (with_reducible refine a0o a0A (by omega) (by assumption) ?_)
       go_ret
       exact⟨rfl,a0j hv.out⟩
   ·have hv:Hid (true=a1z m):=hid (by
     symm;exact a1A.2 ⟨by omega,fun q hq=>hok.out q (by omega) hq⟩)
    go_wp2_with fail
    go_ret
    exact⟨rfl,a0j hv.out⟩
end Go.Proofs.YtoibhmjjhgaimaaGreat
namespace Go.Rep
open Go.RowKit Go.Lim
abbrev Hdr:=Option Addr×Nat×Nat
def HdR:Mem->Value->Hdr->Prop:=fun _ u x=>u= .slice x.1 x.2.1 x.2.2
theorem HdR.elem:Elem HdR 1:=⟨fun _ _ _ _ _ h=>h,by rintro h u x rfl;rfl,by
 rintro h u x rfl c hc;simp[a0n,Value.cells]at hc;subst hc;rfl,Nat.one_pos⟩
theorem HdR.one:a2W HdR:=by rintro h u x rfl;rfl
theorem HdR.pure:∀h h' u x,HdR h u x->HdR h' u x:=fun _ _ _ _ h=>h
theorem OL.frame {α:Type} {R:Mem->Value->α->Prop} {sz:Nat} {X:Nat->Bool} {base:Nat} {e:TypeId} {w w':World} {ao:Option Addr} {cap:Nat} {l:List α} (hR0:∀h h' u x,R h u x->R h' u x) {Y Z:Nat->Bool} (h:OL R sz X base e w ao cap l) (hE:ExtX Y w w') (hY:∀k,ob ao k=true->Y k=false) (hZ:∀k,ob ao k=true->Z k=false):OL R sz Z base e w' ao cap l:=by
 have hb:=fun k (hk:ob ao k=true)=>h.block hk;obtain⟨hx,us,h1,h2,h22,h3,h5⟩:=h;refine⟨hZ,us,h1,h2,h22,?_,fun i hi hi'=>hR0 _ _ _ _ (h5 i hi hi')⟩;refine⟨h3.1,?_⟩;rcases h3.2 with h4|⟨g,c,cur,hv,h6,h7,h8⟩
 ·exact .inl h4
 ·refine .inr ⟨g,c,cur,hv,h6,?_,h8⟩
  simp at hv;obtain⟨rfl,rfl⟩:=hv;have hk:ob (some ⟨g,0,none⟩) g=true:=by simp[ob]
  rw[hE.block g (hb g hk).2 (hY g hk),h7]
def cut (Z:Nat->Bool) (ao:Option Addr):Nat->Bool:=fun k=>Z k&& !ob ao k
theorem a9l {Z:Nat->Bool} {ao:Option Addr} (h:∀k,ob ao k=true->Z k=true):un (cut Z ao) ao=Z:=by
 funext k
 have:=h k;unfold un cut;cases hb:ob ao k<;>cases hz:Z k<;>simp_all
theorem b1a {Z:Nat->Bool} {ao:Option Addr} {k:Nat} (h:cut Z ao k=true):Z k=true/\ob ao k=false:=by simpa[cut]using h
theorem a5k {Z:Nat->Bool} {ao:Option Addr} {k:Nat} (h:Z k=true) (h2:ob ao k=false):cut Z ao k=true:=by simp[cut,h,h2]
def obs (hs:List Hdr):Nat->Bool:=fun k=>hs.any fun h=>ob h.1 k
theorem a1s {hs:List Hdr} {i:Nat} (hi:i<hs.length) {k:Nat} (h:ob hs[i].1 k=true):obs hs k=true:=by
 unfold obs;rw[List.any_eq_true];exact⟨_,List.getElem_mem hi,h⟩
theorem a3x {hs:List Hdr} {k:Nat} (h:obs hs k=true):∃i,∃hi:i<hs.length,ob hs[i].1 k=true:=by
 unfold obs at h;rw[List.any_eq_true]at h;obtain⟨x,hx,h2⟩:=h;obtain⟨i,hi,rfl⟩:=List.getElem_of_mem hx;exact⟨i,hi,h2⟩
def mz (X:Nat->Bool) (ao:Option Addr) (hs:List Hdr):Nat->Bool:=fun k=>X k||ob ao k||obs hs k
def mb (ao:Option Addr) (hs:List Hdr):Nat->Bool:=fun k=>ob ao k||obs hs k
theorem a2h {X:Nat->Bool} {ao:Option Addr} {hs:List Hdr} {k:Nat}:mz X ao hs k=true↔X k=true\/ob ao k=true\/obs hs k=true:=by simp[mz,or_assoc]
theorem a3g {ao:Option Addr} {hs:List Hdr} {k:Nat}:mb ao hs k=true↔ob ao k=true\/obs hs k=true:=by simp[mb]
structure MO (X:Nat->Bool) (base:Nat) (e1 e2:TypeId) (w:World) (ao:Option Addr) (cap:Nat) (hs:List Hdr) (m:List (List Rat)):Prop where
 outer:OL HdR 1 X base e1 w ao cap hs
 len:hs.length=m.length
 rlen:∀i (hi:i<hs.length) (hi':i<m.length),hs[i].2.1=m[i].length
 row:∀i (hi:i<hs.length) (hi':i<m.length),OL QC 3 (cut (mz X ao hs) hs[i].1) base e2 w hs[i].1 hs[i].2.2 m[i]
 sep:∀i (hi:i<hs.length) k,ob hs[i].1 k=true->X k=false/\ob ao k=false
 dis:∀i j (hi:i<hs.length) (hj:j<hs.length),i≠j->∀k,ob hs[i].1 k=true->ob hs[j].1 k=false
section
variable {X:Nat->Bool} {base:Nat} {e1 e2:TypeId} {w w':World} {ao:Option Addr} {cap:Nat} {hs:List Hdr} {m:List (List Rat)}
theorem MO.out_sep (h:MO X base e1 e2 w ao cap hs m) {k:Nat} (hk:ob ao k=true):X k=false/\obs hs k=false:=by
 refine⟨h.outer.1 k hk,?_⟩;cases ho:obs hs k
 ·rfl
 ·obtain⟨i,hi,h2⟩:=a3x ho
  have:=(h.sep i hi k h2).2;rw[hk]at this;simp at this
theorem MO.obs_sep (h:MO X base e1 e2 w ao cap hs m) {k:Nat} (hk:obs hs k=true):X k=false/\ob ao k=false:=by
 obtain⟨i,hi,h2⟩:=a3x hk;exact h.sep i hi k h2
theorem MO.mb_X (h:MO X base e1 e2 w ao cap hs m) {k:Nat} (hk:mb ao hs k=true):X k=false:=by
 rcases a3g.1 hk with a|a
 ·exact(h.out_sep a).1
 ·exact(h.obs_sep a).1
theorem MO.mb_block (h:MO X base e1 e2 w ao cap hs m) {k:Nat} (hk:mb ao hs k=true):base<=k/\k<w.heap.size:=by
 rcases a3g.1 hk with a|a
 ·exact h.outer.block a
 ·obtain⟨i,hi,h2⟩:=a3x a
  exact(h.row i hi (by have:=h.len;omega)).block h2
theorem MO.mz_sub (_h:MO X base e1 e2 w ao cap hs m) {i:Nat} (hi:i<hs.length) (k:Nat) (hk:ob hs[i].1 k=true):mz X ao hs k=true:=a2h.2 (.inr (.inr (a1s hi hk)))
theorem MO.hz (h:MO X base e1 e2 w ao cap hs m) (hX:HX X w):HX (mz X ao hs) w:=fun k hk=>by
 rcases a2h.1 hk with a|a
 ·exact hX k a
 ·exact(h.mb_block (a3g.2 a)).2
theorem MO.ext (h:MO X base e1 e2 w ao cap hs m) {Y X':Nat->Bool} (hE:ExtX Y w w') (hY:∀k,k<w.heap.size->Y k=true->X k=true) (hZ:∀k,k<w.heap.size->X' k=true->X k=true):MO X' base e1 e2 w' ao cap hs m:=by
 have hX':∀k,mb ao hs k=true->X' k=false:=fun k hk=>by
  cases hh:X' k
  ·rfl
  ·have:=hZ k (h.mb_block hk).2 hh;rw[h.mb_X hk]at this;simp at this
 have hYm:∀k,mb ao hs k=true->Y k=false:=fun k hk=>by
  cases hh:Y k
  ·rfl
  ·have:=hY k (h.mb_block hk).2 hh;rw[h.mb_X hk]at this;simp at this
 refine⟨h.outer.ext HdR.elem hE hY hZ,h.len,h.rlen,fun i hi hi'=>?_,fun i hi k hk=>⟨hX' k (a3g.2 (.inr (a1s hi hk))),(h.sep i hi k hk).2⟩,h.dis⟩;refine(h.row i hi hi').ext QC.elem hE (fun k hk hy=>a5k (a2h.2 (.inl (hY k hk hy))) ?_) (fun k hk hy=>?_)
 ·cases hb:ob hs[i].1 k
  ·rfl
  ·have:=hYm k (a3g.2 (.inr (a1s hi hb)));rw[hy]at this;simp at this
 ·obtain⟨h1,h2⟩:=b1a hy
  refine a5k (a2h.2 ?_) h2;rcases a2h.1 h1 with a|a
  ·exact .inl (hZ k hk a)
  ·exact .inr a
theorem MO.ext0 (h:MO X base e1 e2 w ao cap hs m) (hE:Ext w w'):MO X base e1 e2 w' ao cap hs m:=
 h.ext hE (fun k _ hk=>by simp[noY]at hk) (fun _ _ h=>h)
theorem MO.upd (h:MO X base e1 e2 w ao cap hs m) {i:Nat} (hi:i<hs.length) {l:List Rat} (hE:ExtX (ob hs[i].1) w w') (hl:∀hi':i<m.length,l.length=m[i].length) (hr:OL QC 3 (cut (mz X ao hs) hs[i].1) base e2 w' hs[i].1 hs[i].2.2 l):MO X base e1 e2 w' ao cap hs (m.set i l):=by
 refine⟨h.outer.frame HdR.pure hE (fun k hk=>?_) h.outer.1,by rw[List.length_set];exact h.len,fun j hj hj'=>?_,fun j hj hj'=>?_,h.sep,h.dis⟩
 ·cases hb:ob hs[i].1 k
  ·rfl
  ·have:=(h.sep i hi k hb).2;rw[hk]at this;simp at this
 ·rw[List.getElem_set]
  split
  ·subst_vars;rw[hl (by have:=h.len;omega)];exact h.rlen _ hj (by have:=h.len;omega)
  ·exact h.rlen j hj (by simpa using hj')
 ·rw[List.getElem_set]
  split
  ·subst_vars;exact hr
  ·rename_i e
   exact(h.row j hj (by simpa using hj')).ext QC.elem hE (fun k _ hk=>a5k (h.mz_sub hi k hk) (h.dis i j hi hj e k hk)) (fun _ _ hk=>hk)
theorem MO.perm (h:MO X base e1 e2 w ao cap hs m) {hs':List Hdr} {m':List (List Rat)} (f:Nat->Nat) (hf:∀i,i<hs.length->f i<hs.length) (hinj:∀i j,i<hs.length->j<hs.length->f i=f j->i=j) (hsurj:∀i,i<hs.length->∃j,j<hs.length/\f j=i)
  (hl:hs'.length=hs.length) (hlm:m'.length=m.length) (hh:∀i (hi:i<hs'.length) (hi':f i<hs.length),hs'[i]=hs[f i]) (hm:∀i (hi:i<m'.length) (hi':f i<m.length),m'[i]=m[f i])
  (hE:ExtX (ob ao) w w') (ho:OL HdR 1 X base e1 w' ao cap hs'):MO X base e1 e2 w' ao cap hs' m':=by
 have hlen:=h.len;have hobs:∀k,obs hs' k=true↔obs hs k=true:=fun k=>by
  constructor
  ·intro hk
   obtain⟨i,hi,h2⟩:=a3x hk;have hfi:=hf i (by omega);rw[hh i hi hfi]at h2;exact a1s hfi h2
  ·intro hk
   obtain⟨i,hi,h2⟩:=a3x hk;obtain⟨j,hj,rfl⟩:=hsurj i hi;refine a1s (i:=j) (by omega) ?_;rw[hh j (by omega) hi];exact h2
 have hz:mz X ao hs'=mz X ao hs:=by
  funext k
  rw[Bool.eq_iff_iff,a2h,a2h,hobs]
 refine⟨ho,by omega,fun i hi hi'=>?_,fun i hi hi'=>?_,fun i hi k hk=>?_,fun i j hi hj hij k hk=>?_⟩
 ·have hfi:=hf i (by omega)
  rw[hh i hi hfi,hm i hi' (by omega)];exact h.rlen _ hfi (by omega)
 ·have hfi:=hf i (by omega)
  rw[hz,hh i hi hfi,hm i hi' (by omega)];exact(h.row _ hfi (by omega)).ext QC.elem hE (fun k _ hk=>a5k (a2h.2 (.inr (.inl hk))) (by
   cases hb:ob hs[f i].1 k
   ·rfl
   ·have:=(h.sep _ hfi k hb).2;rw[hk]at this;simp at this)) (fun _ _ hk=>hk)
 ·have hfi:=hf i (by omega)
  rw[hh i hi hfi]at hk;exact h.sep _ hfi k hk
 ·have hfi:=hf i (by omega)
  have hfj:=hf j (by omega);rw[hh i hi hfi]at hk;rw[hh j hj hfj];exact h.dis _ _ hfi hfj (fun e=>hij (hinj i j (by omega) (by omega) e)) k hk
theorem MO.put (h:MO X base e1 e2 w ao cap hs m) {i:Nat} (hi:i<hs.length) (hn:hs[i].1=none) {a:Option Addr} {c:Nat} {l:List Rat} {w1:World}
  (hE1:Ext w w1) (hnew:∀k,ob a k=true->w.heap.size<=k) (hr:OL QC 3 (mz X ao hs) base e2 w1 a c l) (hX:HX X w)
  (hE:ExtX (ob ao) w1 w') (ho:OL HdR 1 X base e1 w' ao cap (hs.set i (a,l.length,c))):MO X base e1 e2 w' ao cap (hs.set i (a,l.length,c)) (m.set i l):=by
 have hlen:=h.len;have hE':ExtX (ob ao) w w':=(ExtX.of hE1).trans hE;have hobs:∀k,obs (hs.set i (a,l.length,c)) k=true↔obs hs k=true\/ob a k=true:=fun k=>by
  constructor
  ·intro hk
   obtain⟨j,hj,h2⟩:=a3x hk;rw[List.getElem_set]at h2;split at h2
   ·exact .inr h2
   ·exact .inl (a1s (by simpa using hj) h2)
  ·rintro (hk|hk)
   ·obtain⟨j,hj,h2⟩:=a3x hk
    refine a1s (i:=j) (by simpa using hj) ?_;rw[List.getElem_set];split
    ·subst_vars;rw[hn]at h2;simp[ob]at h2
    ·exact h2
   ·refine a1s (i:=i) (by simpa using hi) ?_
    rw[List.getElem_set];simpa using hk
 have hmz:∀k,mz X ao (hs.set i (a,l.length,c)) k=true↔mz X ao hs k=true\/ob a k=true:=fun k=>by
  rw[a2h,a2h,hobs];constructor
  ·rintro (h|h|h|h)
   ·exact .inl (.inl h)
   ·exact .inl (.inr (.inl h))
   ·exact .inl (.inr (.inr h))
   ·exact .inr h
  ·rintro ((h|h|h)|h)
   ·exact .inl h
   ·exact .inr (.inl h)
   ·exact .inr (.inr (.inl h))
   ·exact .inr (.inr (.inr h))
 have hold:∀k,mb ao hs k=true->ob a k=false:=fun k hk=>by
  cases hb:ob a k
  ·rfl
  ·have:=hnew k hb;have:=(h.mb_block hk).2;omega
 have hobao:∀k,ob a k=true->ob ao k=false:=fun k hk=>by
  cases hb:ob ao k
  ·rfl
  ·have:=hold k (a3g.2 (.inl hb));rw[hk]at this;simp at this
 refine⟨ho,by simp[hlen],fun j hj hj'=>?_,fun j hj hj'=>?_,fun j hj k hk=>?_,fun j q hj hq hjq k hk=>?_⟩
 ·rw[List.getElem_set,List.getElem_set]
  split
  ·rfl
  ·exact h.rlen j (by simpa using hj) (by simpa using hj')
 ·have hj0:j<hs.length:=by simpa using hj
  have hj1:j<m.length:=by simpa using hj'
  by_cases e:i=j
  ·subst e
   simp only[List.getElem_set_self];refine hr.ext QC.elem hE (fun k _ hk=>a2h.2 (.inr (.inl hk))) (fun k hk hz=>?_);obtain⟨h1,h2⟩:=b1a hz;rcases(hmz k).1 h1 with h3|h3
   ·exact h3
   ·rw[h2]at h3;simp at h3
  ·simp only[List.getElem_set_ne e]
   refine(h.row j hj0 hj1).ext QC.elem hE' (fun k _ hk=>a5k (a2h.2 (.inr (.inl hk))) ?_) (fun k hk hz=>?_)
   ·cases hb:ob hs[j].1 k
    ·rfl
    ·have:=(h.sep j hj0 k hb).2;rw[hk]at this;simp at this
   ·obtain⟨h1,h2⟩:=b1a hz
    rcases(hmz k).1 h1 with h3|h3
    ·exact a5k h3 h2
    ·have:=hnew k h3;omega
 ·rw[List.getElem_set]at hk
  split at hk
  ·exact⟨by
    cases hb:X k
    ·rfl
    ·have:=hX k hb;have:=hnew k hk;omega,hobao k hk⟩
  ·exact h.sep j (by simpa using hj) k hk
 ·have hj0:j<hs.length:=by simpa using hj
  have hq0:q<hs.length:=by simpa using hq
  rw[List.getElem_set]at hk |-;split at hk
  ·rw[if_neg (by omega)]
   cases hb:ob hs[q].1 k
   ·rfl
   ·have:=hold k (a3g.2 (.inr (a1s hq0 hb)));dsimp only at hk;rw[hk]at this;simp at this
  ·split
   ·exact hold k (a3g.2 (.inr (a1s hj0 hk)))
   ·exact h.dis j q hj0 hq0 hjq k hk
theorem MO.hdr (h:MO X base e1 e2 w ao cap hs m) (i:Nat) (hi:i<hs.length):w.cell? (adr ao i)=some (.slice hs[i].1 hs[i].2.1 hs[i].2.2)/\w.frozen? (adr ao i)=false:=by
 obtain⟨u,h1,h2,rfl⟩:=h.outer.cell HdR.one i hi;exact⟨h1,h2⟩
theorem MO.rowS (h:MO X base e1 e2 w ao cap hs m) {i:Nat} (hi:i<hs.length) (hi':i<m.length):Sl QC 3 (_root_.Go.Rep.mk (cut (mz X ao hs) hs[i].1) w) hs[i].1 m[i]:=(h.row i hi hi').sl QC.elem
theorem MO.rowX (h:MO X base e1 e2 w ao cap hs m) {i:Nat} (hi:i<hs.length) (hi':i<m.length):Sl QC 3 (_root_.Go.Rep.mk X w) hs[i].1 m[i]:=(h.rowS hi hi').mono QC.mono (a1N fun k _ hk=>a5k (a2h.2 (.inl hk)) (by
 cases hb:ob hs[i].1 k
 ·rfl
 ·have:=(h.sep i hi k hb).1;rw[hk]at this;simp at this))
theorem MO.capLen (h:MO X base e1 e2 w ao cap hs m):m.length<=cap:=by rw[<-h.len];exact h.outer.lenCap
theorem MO.mc (h:MO X base e1 e2 w ao cap hs m):MC (_root_.Go.Rep.mk X w) (.slice ao m.length cap) m:=by
 have hl:=h.len;refine⟨ao,cap,rfl,h.capLen,fun hp=>?_,fun i hi=>?_⟩
 ·have:=h.outer.hd;rw[hl]at this;exact this hp
 ·obtain⟨h1,_⟩:=h.hdr i (by omega)
  have hr:=h.rowX (i:=i) (by omega) hi;refine⟨.slice hs[i].1 hs[i].2.1 hs[i].2.2,rfl,fun j hj=>?_,?_⟩
  ·have hj0:j=0:=by simp[Value.cells]at hj;omega
   subst hj0;unfold _root_.Go.Rep.mk;have hX:X (adr ao (i*1+0)).block=false:=by
    obtain⟨b,off,rfl⟩:=h.outer.hd (by omega);exact h.outer.1 _ (by simp[ob,adr])
   rw[hX];simpa[Value.cells]using h1
  ·rw[h.rlen i (by omega) hi]
   exact⟨_,_,rfl,by have:=(h.row i (by omega) hi).lenCap;exact this,hr⟩
theorem MO.start {n:Nat} (ho:OL HdR 1 X base e1 w ao cap (List.replicate n (none,0,0))) (e2:TypeId):MO X base e1 e2 w ao cap (List.replicate n (none,0,0)) (List.replicate n []):=by
 refine⟨ho,by simp,fun i hi hi'=>by simp,fun i hi hi'=>?_,fun i hi k hk=>?_,fun i j hi hj hij k hk=>?_⟩
 ·simp only[List.getElem_replicate];exact OL.nil _ _ _ _ _ _
 ·simp[ob]at hk
 ·simp[ob]at hk
end
end Go.Rep
namespace Go.Rep
open Go.RowKit Go.Lim
section
variable {P:Program} {α:Type} {R:Mem->Value->α->Prop} {X:Nat->Bool} {base:Nat} {e:TypeId} {w:World} {ao:Option Addr} {cap:Nat} {l:List α}
theorem OL.cell3 (h:OL R 3 X base e w ao cap l) (i:Nat) (hi:i<l.length) {g o:Nat} (hg:adr ao (i*3)=⟨g,o,none⟩):
  ∃u v0 v1 v2,a0n u= [v0,v1,v2]/\(w.cell? ⟨g,o,none⟩=some v0/\w.frozen? ⟨g,o,none⟩=false)/\(w.cell? ⟨g,o+1,none⟩=some v1/\w.frozen? ⟨g,o+1,none⟩=false)/\(w.cell? ⟨g,o+2,none⟩=some v2/\w.frozen? ⟨g,o+2,none⟩=false)/\R (mk (un X ao) w) u l[i]:=by
 obtain⟨us,h1,h2,_,h3,h5⟩:=h.cells;have hi':i<us.length:=by omega
 have hsz:us[i].cells.size=3:=h2 _ (List.getElem_mem _);have hlen:(a0n us[i]).length=3:=by simp[a0n,hsz]
 obtain⟨v0,v1,v2,hv⟩:∃v0 v1 v2,a0n us[i]= [v0,v1,v2]:=by
  match hc:a0n us[i],hlen with
  | [a,b,c],_=>exact⟨a,b,c,rfl⟩
 have ha:∀j,adr ao (i*3+j)=⟨g,o+j,none⟩:=fun j=>by rw[<-a8e,hg,Addr.add_lit]
 have key:∀j v,j<3->(a0n us[i])[j]? =some v->w.cell? ⟨g,o+j,none⟩=some v/\w.frozen? ⟨g,o+j,none⟩=false:=fun j v hj hjv=>by
  have hget:=a2F us i j hi' h2 hj;rw[hjv]at hget;have:=h3 _ _ hget;rwa[ha]at this
 exact⟨us[i],v0,v1,v2,hv,key 0 v0 (by omega) (by rw[hv];rfl),key 1 v1 (by omega) (by rw[hv];rfl),key 2 v2 (by omega) (by rw[hv];rfl),h5 i hi' hi⟩
theorem a4P {P:Program} {w:World} {a:Addr} {u v:Value} (h1:v.oneCell'=true) (hc:w.cell? a=some u) (hf:w.frozen? a=false):(store a v).run P w= .ok () (w.setCell a v):=by
 rw[run_store P w a v _ h1,hc];simp[hf]
theorem OL.set3 {t:TypeId} (hT:TyI P t 3) (hR:Elem R 3) (h:OL R 3 X base e w ao cap l) (i:Nat) (hi:i<l.length) {g o:Nat} (hg:adr ao (i*3)=⟨g,o,none⟩) {v0 v1 v2:Value} {x:α} (hu:R (mk (un X ao) w) (.agg #[v0,v1,v2]) x):
  OL R 3 X base e (((w.setCell ⟨g,o,none⟩ v0).setCell ⟨g,o+1,none⟩ v1).setCell ⟨g,o+2,none⟩ v2) ao cap (l.set i x)/\ExtX (ob ao) w (((w.setCell ⟨g,o,none⟩ v0).setCell ⟨g,o+1,none⟩ v1).setCell ⟨g,o+2,none⟩ v2):=by
 obtain⟨ti,ht,hts⟩:=hT;obtain⟨_,c0,c1,c2,_,⟨h0,f0⟩,⟨h1,f1⟩,⟨h2,f2⟩,_⟩:=h.cell3 i hi hg;obtain⟨w',hr,h3,h4⟩:=h.run_store (P:=P) ht hts hR i hi _ x hu;have hone:=hR.one _ _ _ hu;rw[hg]at hr;have o0:v0.oneCell'=true:=hone v0 (by simp[a0n,Value.cells]);have o1:v1.oneCell'=true:=hone v1 (by simp[a0n,Value.cells]);have o2:v2.oneCell'=true:=hone v2 (by simp[a0n,Value.cells]);have a1:(w.setCell ⟨g,o,none⟩ v0).cell? ⟨g,o+1,none⟩=some c1:=by rw[World.cell?_setCell_other (h:=by simp)];exact h1
 have a2:((w.setCell ⟨g,o,none⟩ v0).setCell ⟨g,o+1,none⟩ v1).cell? ⟨g,o+2,none⟩=some c2:=by rw[World.cell?_setCell_other (h:=by simp),World.cell?_setCell_other (h:=by simp)];exact h2
 have b1:(w.setCell ⟨g,o,none⟩ v0).frozen? ⟨g,o+1,none⟩=false:=by rw[World.frozen?_setCell];exact f1
 have b2:((w.setCell ⟨g,o,none⟩ v0).setCell ⟨g,o+1,none⟩ v1).frozen? ⟨g,o+2,none⟩=false:=by rw[World.frozen?_setCell,World.frozen?_setCell];exact f2
 have hw:w'=((w.setCell ⟨g,o,none⟩ v0).setCell ⟨g,o+1,none⟩ v1).setCell ⟨g,o+2,none⟩ v2:=by
  have s0:=a4P (P:=P) o0 h0 f0;have s1:=a4P (P:=P) o1 a1 b1;have s2:=a4P (P:=P) o2 a2 b2;simp[storeVar,sizeOf,typeInfo,ht,hts,Value.cells,storeCells,Addr.add_lit,s0,s1,s2]at hr;exact hr.symm
 subst hw;exact⟨h3,h4⟩
end
section
variable {X:Nat->Bool} {base:Nat} {e1 e2:TypeId} {w w':World} {ao:Option Addr} {cap:Nat} {hs:List Hdr} {m:List (List Rat)}
theorem MO.old {α:Type} {R:Mem->Value->α->Prop} (hR:a3i R) {u:Value} {x:α} {X0:Nat->Bool} {w0:World} (h:MO X base e1 e2 w ao cap hs m) (hu:R (_root_.Go.Rep.mk X0 w0) u x) (hE:Ext w0 w) (hb:w0.heap.size<=base) (hX:∀k,k<w0.heap.size->X k=true->X0 k=true):R (_root_.Go.Rep.mk (mz X ao hs) w) u x:=
 hR _ _ _ _ (a0N hE (fun k _ hk=>by simp[noY]at hk) fun k hk hz=>by
  rcases a2h.1 hz with a|a
  ·exact hX k hk a
  ·have:=(h.mb_block (a3g.2 a)).1;omega) hu
theorem MO.less {α:Type} {R:Mem->Value->α->Prop} (hR:a3i R) {u:Value} {x:α} (_h:MO X base e1 e2 w ao cap hs m) (hu:R (_root_.Go.Rep.mk (mz X ao hs) w) u x):R (_root_.Go.Rep.mk X w) u x:=
 hR _ _ _ _ (a1N fun _ _ hk=>a2h.2 (.inl hk)) hu
theorem MO.ext_from {w0:World} (h:MO X base e1 e2 w ao cap hs m) (hE:Ext w0 w) (hb:w0.heap.size<=base) (hE2:ExtX (mb ao hs) w w'):Ext w0 w':=
 hE.then_ hE2 fun i hi _=>by
  cases hk:mb ao hs i
  ·rfl
  ·have:=(h.mb_block hk).1;omega
theorem b4U {ao:Option Addr} {hs:List Hdr} {k:Nat} (h:mb ao hs k=false):ob ao k=false/\∀i (hi:i<hs.length),ob hs[i].1 k=false:=by
 refine⟨?_,fun i hi=>?_⟩
 ·cases hb:ob ao k
  ·rfl
  ·rw[a3g.2 (.inl hb)]at h;simp at h
 ·cases hb:ob hs[i].1 k
  ·rfl
  ·rw[a3g.2 (.inr (a1s hi hb))]at h;simp at h
theorem ExtX.row {i:Nat} (hi:i<hs.length) (h:ExtX (ob hs[i].1) w w'):ExtX (mb ao hs) w w':=h.weaken fun _ _ hk=>(b4U hk).2 i hi
theorem ExtX.outer (h:ExtX (ob ao) w w'):ExtX (mb ao hs) w w':=h.weaken fun _ _ hk=>(b4U hk).1
theorem b1b {hs hs':List Hdr} (h:∀k,obs hs k=obs hs' k):mb ao hs=mb ao hs'/\mz X ao hs=mz X ao hs':=by
 constructor<;>(funext k;simp[mb,mz,h])
def b7y (X:Nat->Bool) (e1 e2:TypeId) (w:World) (m:List (List Rat)) (e:Ending) (w':World):Prop:=Ext w w'/\∃ao cap hs,e= .returned (.slice ao m.length cap)/\MO X w.heap.size e1 e2 w' ao cap hs m
end
end Go.Rep
namespace Go.Proofs.YtoibhmjjhgaimaaGreat
open Go.RowKit Go.Rep Go.Lim Go.Lin
theorem a9m {α:Type} (r i:Nat) (z:α) (x:α) (hi:i<r):((List.range r).map fun q=>if q<i then z else x).set i z=(List.range r).map fun q=>if q<i+1 then z else x:=by
 refine List.ext_getElem (by simp) fun q h1 h2=>?_;simp at h1;rw[List.getElem_set];simp only[List.getElem_map,List.getElem_range];split
 ·subst_vars;simp
 ·by_cases a:q<i
  ·simp[a,show q<i+1 by omega]
  ·simp[a,show¬q<i+1 by omega]
theorem a7D {α:Type} (r:Nat) (z x:α):((List.range r).map fun q=>if q<0 then z else x)=List.replicate r x:=by
 refine List.ext_getElem (by simp) fun q h1 h2=>by simp
theorem a7E {α:Type} (r:Nat) (z x:α):((List.range r).map fun q=>if q<r then z else x)=List.replicate r z:=by
 refine List.ext_getElem (by simp) fun q h1 h2=>?_;simp at h1;simp[h1]
set_option maxRecDepth 100000 in
theorem b2P (X:Nat->Bool) (w:World) (r c:Nat) (hX:HX X w) (hr:r<=1000) (hc:c<=1000):Calls Tryz.prog 219 #[.int .i64 (r:Int), .int .i64 (c:Int)] w (b7y X 45 32 w (List.replicate r (List.replicate c 0))):=by
 go_enter Tryz.func219,Tryz.ntmps219
 go_wp2_with ((with_reducible show wpList _ _ _ (⟨_, .makeSlice _ _ _,_,_,_,_⟩::_) _ _);refine a1S (R:=HdR) a0A HdR.elem (none,0,0) (fun _=>rfl) X hX w.heap.size (Nat.le_refl _) r rfl rfl rfl (by omega) (by omega) ?_;intro ao w1 hO1 hE1)
 have hM1:=MO.start hO1 32;have hh:=hO1.hd;simp only[List.length_replicate]at hh;have h0:List.replicate r ([]:List Rat)=(List.range r).map fun q=>if q<0 then List.replicate c 0 else[]:=(a7D r _ _).symm
 rw[h0]at hM1;clear hO1 h0;go_loopw [11] (fun k wr=>∃(i:Nat) (hs:List Hdr),k= .int .i64 i/\i<=r/\Hid (∀q (hq:q<hs.length),i<=q->hs[q].1=none)/\MO X w.heap.size 45 32 wr ao r hs ((List.range r).map fun q=>if q<i then List.replicate c 0 else[])/\Ext w wr) (fun k _=>r - (intOf k).toNat)
 case atStart=>exact⟨0,_,rfl,Nat.zero_le _,hid (fun q hq _=>by simp),hM1,hE1⟩
 case round=>
  obtain⟨i,hs,rfl,hi,hnil,hM,hE⟩:=hrel;have hXr:HX X wr:=hX.ext hE;have hXz:=hM.hz hXr;have hlen:=hid hM.len;have hml:Hid (((List.range r).map fun q=>if q<i then List.replicate c (0:Rat)else[]).length=r):=hid (by simp);by_cases hlt:i<r
  ·have hih:i<hs.length:=by rw[hlen.out,hml.out];exact hlt
   have hps:=hid (a9m r i (List.replicate c (0:Rat)) [] hlt);have hn:=hnil.out i hih (Nat.le_refl _);go_wp2_with (first|(with_reducible refine a0o a0A (by omega) (by assumption) ?_)|((with_reducible show wpList _ _ _ (⟨_, .makeSlice _ _ _,_,_,_,_⟩::_) _ _);refine a1S (R:=QC) a1c QC.elem (0:Rat) (fun _=>QC.zero _) (mz X ao hs) hXz wr.heap.size (Nat.le_refl _) c rfl rfl rfl (by omega) (by omega) ?_;intro a1 w2 hO2 hE2)|((with_reducible show wpList _ _ _ (⟨_, .store _ _ _,_,_,_,_⟩::_) _ _);refine a2G a3R HdR.elem i rfl (by simp) (hM.outer.ext0 HdR.elem hE2) hih (.slice a1 c c) (a1,c,c) rfl rfl ?_;intro w3 hO3 hE3))
   have hM3:=hM.put (l:=List.replicate c 0) hih hn hE2 (fun k hk=>(hO2.block hk).1) (hO2.base_le hE.size) hXr hE3 (by simpa using hO3);rw[hps.out]at hM3;have hE4:Ext w w3:=(hE.trans hE2).then_ hE3 fun k hk _=>by
    cases hb:ob ao k
    ·rfl
    ·have:=(hM.outer.block hb).1;omega
   have hnil2:Hid (∀q (hq:q<(hs.set i (a1,(List.replicate c (0:Rat)).length,c)).length),i+1<=q->(hs.set i (a1,(List.replicate c (0:Rat)).length,c))[q].1=none):=hid fun q hq hiq=>by
    rw[List.getElem_set_ne (by omega)];exact hnil.out q (by simpa using hq) (by omega)
   go_roundw
   case rel=>exact⟨i+1,_,by go_num,by omega,hnil2,hM3,hE4⟩
   case measure=>simp[intOf];omega
  ·have hir:i=r:=by omega
   subst hir;rw[a7E]at hM;go_wp2_with fail
   go_ret
   exact⟨hE,ao,i,hs,by simp,hM⟩
end Go.Proofs.YtoibhmjjhgaimaaGreat
namespace Go.Lin
def mix {α:Type} (a b:List α) (i:Nat):List α:=a.take i++b.drop i
theorem a2Z {α:Type} {a b:List α} (h:a.length=b.length) (i:Nat):(mix a b i).length=a.length:=by simp[mix];omega
theorem a6V {α:Type} (a b:List α):mix a b 0=b:=by simp[mix]
theorem a6W {α:Type} {a b:List α} {i:Nat} (h1:a.length<=i) (h2:b.length<=i):mix a b i=a:=by simp[mix,List.take_of_length_le h1,List.drop_of_length_le h2]
theorem a2B {α:Type} {a b:List α} (h:a.length=b.length) (i q:Nat) (hq:q<(mix a b i).length):(mix a b i)[q]=if q<i then a[q]'(by rw[a2Z h]at hq;exact hq)else b[q]'(by rw[a2Z h]at hq;omega):=by
 have hq':=hq;rw[a2Z h]at hq';have hq2:q<(a.take i++b.drop i).length:=hq
 show(a.take i++b.drop i)[q]'hq2=_
 rw[List.getElem_append];by_cases a1:q<i
 ·rw[dif_pos (by simp;omega),if_pos a1,List.getElem_take]
 ·rw[dif_neg (by simp;omega),if_neg a1,List.getElem_drop]
  congr 1
  simp;omega
theorem a8n {α:Type} {a b:List α} (h:a.length=b.length) {i:Nat} (hi:i<a.length):(mix a b i).set i a[i]=mix a b (i+1):=by
 refine List.ext_getElem (by simp[a2Z h]) fun q h1 h2=>?_;rw[List.getElem_set];split
 ·subst_vars;rw[a2B h,if_pos (by omega)]
 ·rw[a2B h,a2B h]
  by_cases a1:q<i
  ·rw[if_pos a1,if_pos (by omega)]
  ·rw[if_neg a1,if_neg (by omega)]
theorem b6l {α:Type} {a b:List α} (h:a.length=b.length) {i:Nat} (hi:i<b.length):(mix a b i).set i b[i]=mix a b i:=by
 refine List.ext_getElem (by simp) fun q h1 h2=>?_;rw[List.getElem_set];split
 ·subst_vars;rw[a2B h,if_neg (by omega)]
 ·rfl
end Go.Lin
namespace Go.Proofs.YtoibhmjjhgaimaaGreat
open Go.RowKit Go.Rep Go.Lim Go.Lin
set_option maxRecDepth 100000 in
set_option maxHeartbeats 800000 in
theorem a9X (X:Nat->Bool) (w:World) (u:Value) (m:List (List Rat)) (n c:Nat) (hX:HX X w) (hu:MV (mk X w) u m) (hsh:Shp n c m) (hc:a0L m=c) (hn:n<=1000) (hcc:c<=1000):Calls Tryz.prog 217 #[u] w (b7y X 45 32 w m):=by
 have hcol:=a4a X w u m hu;obtain⟨ao0,ca,rfl,hca,hsa⟩:=hu;have hha:=hsa.hd;rw[hc]at hcol;have hml:=hid hsh.1;have hrl:=hid hsh.2;rw[hml.out]at hca hha hcol |-;obtain⟨A,hA⟩:∃A,List.replicate n (List.replicate c (0:Rat))=A:=⟨_,rfl⟩;have hAl:Hid (A.length=n):=hid (by rw[<-hA];simp);have hAi:Hid (∀i (hi:i<A.length),A[i]=List.replicate c (0:Rat)):=hid fun i hi=>by subst hA;simp
 have hmA:Hid (m.length=A.length):=hid (by rw[hml.out,hAl.out]);have hz0:=b2P X w n c hX hn hcc;rw[hA]at hz0;clear hA hsh hc;go_enter Tryz.func217,Tryz.ntmps217
 go_wp2_with fail
 refine hcol.mono ?_;rintro e w1 ⟨rfl,rfl⟩;go_wp2_with fail
 refine hz0.mono ?_;rintro e w2 ⟨hE2,ao,cap,hs,rfl,hM2⟩;rw[hAl.out];have hlen:=hid (hM2.len.trans hAl.out);have hcap:n<=cap:=by have:=hM2.capLen;rw[hAl.out]at this;exact this
 have hhO:Hd ao n:=by have:=hM2.outer.hd;rw[hlen.out]at this;exact this
 have hrl2:Hid (∀i (hi:i<hs.length),hs[i].2.1=c):=hid fun i hi=>by
  have h1:i<A.length:=by rw[hAl.out,<-hlen.out];exact hi
  rw[hM2.rlen i hi h1,hAi.out i h1];simp
 clear hcol hz0;go_wp2_with fail
 go_loopw [15] (fun k wr=>∃(i:Nat),k= .int .i64 i/\i<=n/\MO X w1.heap.size 45 32 wr ao cap hs (mix m A i)/\Ext w1 wr) (fun k _=>n - (intOf k).toNat)
 case atStart=>exact⟨0,rfl,Nat.zero_le _,by rw[a6V];exact hM2,hE2⟩
 case round=>
  obtain⟨i,rfl,hi,hM,hE⟩:=hrel;by_cases hlt:i<n
  ·have him:i<m.length:=by rw[hml.out];exact hlt
   have hiA:i<A.length:=by rw[hAl.out];exact hlt
   have hih:i<hs.length:=by rw[hlen.out];exact hlt
   obtain⟨a1,c1,hX1,hc1,hcl1,hq1⟩:=hsa.row i him;have k00:=hc1.out noY wr hE rfl;obtain⟨x,hx⟩:∃x,m[i]=x:=⟨_,rfl⟩;obtain⟨z,hz⟩:∃z,A[i]=z:=⟨_,rfl⟩;rw[hx]at k00 hcl1 hq1;have hxl:Hid (x.length=c):=hid (by rw[<-hx];exact hrl.out _ (List.getElem_mem _));have hzl:Hid (z.length=c):=hid (by rw[<-hz,hAi.out i hiA];simp);have hxz:Hid (x.length=z.length):=hid (by rw[hxl.out,hzl.out]);rw[hxl.out]at k00 hcl1;have hst:Hid ((mix m A i).set i z=mix m A i):=hid (by rw[<-hz];exact b6l hmA.out hiA);have hfin:Hid ((mix m A i).set i x=mix m A (i+1)):=hid (by rw[<-hx];exact a8n hmA.out him);have hmi:Hid (i<(mix m A i).length):=hid (by rw[a2Z hmA.out];exact him);have hh1:Hd a1 c:=by have:=hq1.hd;rw[hxl.out]at this;exact this
   have hrow:RV (mk X w1) (.slice a1 c c1) x:=⟨a1,c1,by rw[hxl.out],by rw[hxl.out];exact hcl1,hq1⟩;obtain⟨a,na,cr,hhd⟩:∃a na cr,hs[i]=(a,na,cr):=⟨_,_,_,rfl⟩;have hna:na=c:=by have:=hrl2.out i hih;rw[hhd]at this;exact this
   subst hna;have hhd':=hid hhd;rw[<-hst.out]at hM;have hM':MO X w1.heap.size 45 32 wr ao cap hs ((mix m A i).set i (mix x z 0)):=by rw[a6V];exact hM
   clear hx hz hc1 hq1 hhd hM;obtain⟨wo,hwo⟩:∃wo,wo=wr:=⟨_,rfl⟩;subst hwo;go_wp2_with (with_reducible refine a0o a0A (by omega) (by assumption) ?_)
   go_loopw [22] (fun k wr=>∃(j:Nat),k= .int .i64 j/\j<=na/\MO X w1.heap.size 45 32 wr ao cap hs ((mix m A i).set i (mix x z j))/\Ext w1 wr) (fun k _=>na - (intOf k).toNat)
   case atStart=>exact⟨0,rfl,Nat.zero_le _,hM',hE⟩
   case round=>
    obtain⟨j,rfl,hj,hM,hE⟩:=hrel;by_cases hlj:j<na
    ·have hjx:j<x.length:=by rw[hxl.out];exact hlj
     have hXr:HX X wr:=hX.ext hE;have hXz:=hM.hz hXr;have hsr:Sl QV 3 (mk (mz X ao hs) wr) a1 x:=by
      obtain⟨_,_,heq,_,h3⟩:=hM.old RV.mono hrow hE (Nat.le_refl _) (fun _ _ h=>h);simp only[Value.slice.injEq]at heq;obtain⟨rfl,_,rfl⟩:=heq;exact h3
     have hmx:Hid (i<((mix m A i).set i (mix x z j)).length):=hid (by rw[List.length_set];exact hmi.out);have hjl:Hid ((mix x z j).length=na):=hid (by rw[a2Z hxz.out,hxl.out]);have hOr:=hM.row i hih hmx.out;rw[List.getElem_set_self]at hOr;simp only[hhd'.out]at hOr;have hda:Hd a na:=by have:=hOr.hd;rw[hjl.out]at this;exact this
     have hun:Hid (un (cut (mz X ao hs) a) a=mz X ao hs):=hid (a9l fun k hk=>by have:=hM.mz_sub hih k;rw[hhd'.out]at this;exact this hk);have hbsep:Hid (ob a (adr ao i).block=false):=hid (by
      cases hb:ob a (adr ao i).block
      ·rfl
      ·have h1:=(hM.sep i hih (adr ao i).block (by rw[hhd'.out];exact hb)).2
       obtain⟨b0,o0,rfl⟩:=hhO (by omega);simp[ob,adr]at h1)
     have hbnew:Hid (ob a wr.heap.size=false):=hid (hOr.ob_ge (Nat.le_refl _));obtain⟨g,o,hg⟩:∃g o,adr a (j*3)=⟨g,o,none⟩:=⟨_,_,rfl⟩;have i2:∀W,(Instr.indexAt 25 (.slice ao n cap) (.int .i64 (i:Int))).run Tryz.prog W= .ok (.pointer (some (adr ao i))) W:=a0I a0A ao n cap .i64 i hhO (by omega) rfl;have i3:∀W,(Instr.indexAt 45 (.slice a na cr) (.int .i64 (j:Int))).run Tryz.prog W= .ok (.pointer (some ⟨g,o,none⟩)) W:=by rw[<-hg];exact a0k a1c a na cr .i64 j hda (by omega)
     have bx:=Bx.new wr #[.bool false, .slice none 0 0, .slice none 0 0] 32;obtain⟨Z,hZ⟩:∃Z,mz X ao hs=Z:=⟨_,rfl⟩;have hZ':=hid hZ;rw[hZ]at hXz hsr hOr hun;have hjs:Hid ((mix x z j).set j x[j]=mix x z (j+1)):=hid (a8n hxz.out hjx);have hadd0:Hid (x[j]+0=x[j]):=hid (Rat.add_zero _);have hhdr:=(hM.hdr i hih).1;rw[hhd'.out]at hhdr
     dsimp only at hhdr
     clear hZ k00;go_wp2_with (first|(with_reducible refine a1E a1c (by omega) (by assumption) ?_)|((with_reducible show wpList _ _ _ (⟨_, .load _ _,_,_,_,_⟩::_) _ _);refine a0M a0s j hsr hjx rfl (by simp) QV.agg ?_;intro u5 hu5;obtain⟨s5,a5,n5,c5,d5,k5,e5,rfl⟩:=hu5.shape)|((with_reducible show wpList _ _ _ (⟨_, .store _ _ _,_,_,_,_⟩::_) _ _);refine a0d a0s rfl rfl bx rfl rfl (a2n _ _ _ _ _ _ _) ?_;intro w5 r1 r2))
     have hE5:Ext wr w5:=ExtX.box ((ExtX.refl wr).alloc _) r2 (Nat.le_refl _);have hEd:Ext w5 w5.drew:=(ExtX.refl w5).drew;have hM5:=hM.ext0 hE5;have hO5:=hOr.ext0 QC.elem hE5;have hx5:QV (mk Z w5.drew) (.agg #[.bool s5, .slice a5 n5 c5, .slice d5 k5 e5]) x[j]:=mkx QV.mono hu5 (hE5.trans hEd);have h00:QV (mk Z w5.drew) (.agg #[.bool false, .slice none 0 0, .slice none 0 0]) 0:=(QC.zero _).qv (by rw[a2k];decide);have hXd:HX Z w5.drew:=hXz.ext (hE5.trans hEd);have hS:Hid (∀Y W',ExtX Y w5.drew W'->Y (adr ao i).block=false->Y wr.heap.size=false->W'.cell? (adr ao i)=some (.slice a na cr)/\W'.cell? ⟨wr.heap.size,0,none⟩=some (.bool s5)/\W'.cell? ⟨wr.heap.size,1,none⟩=some (.slice a5 n5 c5)/\W'.cell? ⟨wr.heap.size,2,none⟩=some (.slice d5 k5 e5)):=hid fun Y W' h hy1 hy2=>by
      have b1:=(r1.ext0 hEd).ext h hy2;exact⟨h.cellY ((hE5.trans hEd).cell hhdr) hy1,b1.cell 0 rfl,b1.cell 1 rfl,b1.cell 2 rfl⟩
     obtain⟨k20,k30,k31,k32⟩:=hS.out noY w5.drew (ExtX.refl _) rfl rfl;obtain⟨bw,hbw⟩:∃bw,wr.heap.size=bw:=⟨_,rfl⟩;rw[hbw]at hS k30 k31 k32 hbnew |-;clear hhdr r1 bx;go_wp2_with fail
     go_region_held3 (fun w'=>w'.cell? (adr ao i)=some (.slice a na cr)/\w'.cell? ⟨bw,0,none⟩=some (.bool s5)/\w'.cell? ⟨bw,1,none⟩=some (.slice a5 n5 c5)/\w'.cell? ⟨bw,2,none⟩=some (.slice d5 k5 e5))
      (first|exact hS.out noY _ t1 rfl rfl|exact hS.out (ob a) _ ((ExtX.of t1).trans hset.2) hbsep.out hbnew.out|go_keep)
      ((go_at_call 112;(with_reducible refine(b6i Z w5.drew _ _ _ 0 hXd hx5 h00).mono ?_);rintro ee w6 ⟨t1,u6,rfl,hu6⟩;obtain⟨s6,a6,n6,c6,d6,k6,e6,rfl⟩:=hu6.shape;rw[hadd0.out]at hu6;have hO6:=hO5.ext0 QC.elem (hEd.trans t1);obtain⟨_,v0,v1,v2,_,⟨g0,f0⟩,⟨g1,f1⟩,⟨g2,f2⟩,_⟩:=hO6.cell3 j (by rw[hjl.out];exact hlj) hg;have hset:=hO6.set3 a7z QC.elem j (by rw[hjl.out];exact hlj) hg (v0:= .bool s6) (v1:= .slice a6 n6 c6) (v2:= .slice d6 k6 e6) (x:=x[j]) (by rw[hun.out];exact hu6)))
     obtain⟨q1,q2⟩:=hset;rw[hjs.out]at q1;have q2':ExtX (ob hs[i].1) w6 (((w6.setCell ⟨g,o,none⟩ (.bool s6)).setCell ⟨g,o+1,none⟩ (.slice a6 n6 c6)).setCell ⟨g,o+2,none⟩ (.slice d6 k6 e6)):=by rw[hhd'.out];exact q2
     have hM6:=hM5.ext0 (hEd.trans t1);have hM7:=hM6.upd hih (l:=mix x z (j+1)) q2' (fun hi'=>by rw[List.getElem_set_self,a2Z hxz.out,a2Z hxz.out]) (by rw[hZ'.out,hhd'.out];exact q1);rw[List.set_set]at hM7;have hE7:=hM6.ext_from ((hE.trans hE5).trans (hEd.trans t1)) (Nat.le_refl _) (ExtX.row hih q2');clear k20 k30 k31 k32 g0 g1 g2 f0 f1 f2 i2 i3;go_wp2_with fail
     go_roundw
     case rel=>exact⟨j+1,by go_num,by omega,hM7,hE7⟩
     case measure=>simp[intOf];omega
    ·have hjn:j=na:=by omega
     subst hjn;rw[a6W (a:=x) (b:=z) (by rw[hxl.out];exact Nat.le_refl _) (by rw[hzl.out];exact Nat.le_refl _),hfin.out]at hM;go_wp2_with fail
     go_roundw
     case rel=>exact⟨i+1,by go_num,by omega,hM,hE⟩
     case measure=>simp[intOf];omega
  ·have hin:i=n:=by omega
   subst hin;rw[a6W (by rw[hml.out];exact Nat.le_refl _) (by rw[hAl.out];exact Nat.le_refl _)]at hM;go_wp2_with fail
   go_ret
   exact⟨hE,ao,cap,hs,by rw[hml.out];rfl,hM⟩
end Go.Proofs.YtoibhmjjhgaimaaGreat
namespace Go.Rep
open Go.RowKit Go.Lim
section
variable {P:Program} {ops:Array Oper} {Q:Exit->Act->World->Prop} {rest:List Oper} {a:Act} {w:World}
variable {α:Type} {R:Mem->Value->α->Prop} {sz:Nat} {X:Nat->Bool} {base:Nat} {e:TypeId} {ao:Option Addr} {cap:Nat} {l:List α}
variable {d:Option Tmp} {ty:TypeId} {ps:String} {af:Array Edge}
theorem b1c {t:TypeId} {x:Operand} {k:Nat} (hT:a1L P t sz) (i:Nat) (h:OL R sz X base e w ao cap l) (hi:i<l.length) (hx:a.eval x= .pointer (some (adr ao k))) (hk:k=i*sz) (hag:∀h u y,R h u y->∃cs,u= .agg cs)
  (K:∀u,R (mk (un X ao) w) u l[i]->wpList P ops Q rest (a.put d u) w):
  wpList P ops Q (⟨d, .load t x,ty,ps,af,none⟩::rest) a w:=by
 refine wpList_plain rfl fun K' hK'=>?_;subst hk;obtain⟨fs,ti,h1,h2,h3⟩:=hT;obtain⟨us,p1,p2,_,p3,p5⟩:=h.cells;have hi':i<us.length:=by omega
 have h6:=p5 i hi' hi;obtain⟨cs,hcs⟩:=hag _ _ _ h6;have hsz:cs.toList.length=sz:=by have:=p2 us[i] (List.getElem_mem _);rw[hcs]at this;simpa[Value.cells]using this
 have hl:=run_loadCells_list (P:=P) w (adr ao (i*sz)) cs.toList (fun j v hj=>by
  rw[a8e];have hj1:j<sz:=by rw[<-hsz];exact(List.getElem?_eq_some_iff.1 hj).1
  have hget:=a2F us i j hi' p2 hj1;rw[hcs]at hget;have hj2:(a0n (.agg cs))[j]? =some v:=by simpa[a0n,Value.cells]using hj
  rw[hj2]at hget;exact(p3 _ _ hget).1)
 rw[hsz]at hl;unfold Oper.wp;simp[execOp,hx,Instr.loadAt,Instr.sureAddr,loadVar,isAgg,run_underlying h1,sizeOf,typeInfo,h2,h3,hl,Result.andThen];rw[hcs]at h6;exact hK' _ _ (K _ h6)
end
theorem OL.rat {R:Mem->Value->Rat->Prop} (hR:a9f R) {X:Nat->Bool} {base:Nat} {e:TypeId} {w:World} {ao:Option Addr} {cap:Nat} {l:List Rat} (h:OL R 3 X base e w ao cap l) (i:Nat) (hi:i<l.length):
  ∃g o sg a n c d k e,adr ao (i*3)=⟨g,o,none⟩/\ob ao g=true/\Hid (∀Y W',ExtX Y w W'->Y g=false->W'.cell? ⟨g,o,none⟩=some (.bool sg)/\W'.cell? ⟨g,o+1,none⟩=some (.slice a n c)/\W'.cell? ⟨g,o+2,none⟩=some (.slice d k e))/\R (mk (un X ao) w) (.agg #[.bool sg, .slice a n c, .slice d k e]) l[i]:=by
 obtain⟨b0,o0,hb0⟩:=h.hd (by omega);have hg:adr ao (i*3)=⟨b0,o0+i*3,none⟩:=by rw[hb0];rfl
 obtain⟨u,v0,v1,v2,hu,⟨h0,_⟩,⟨h1,_⟩,⟨h2,_⟩,h3⟩:=h.cell3 i hi hg;obtain⟨sg,a,n,c,d,k,e,rfl⟩:=hR _ _ _ h3;simp only[a0n,Value.cells,List.cons.injEq,and_true]at hu;obtain⟨rfl,rfl,rfl⟩:=hu;exact⟨_,_,sg,a,n,c,d,k,e,hg,by rw[hb0];simp[ob],hid fun Y W' hE hY=>⟨hE.cellY h0 hY,hE.cellY h1 hY,hE.cellY h2 hY⟩,h3⟩
end Go.Rep
namespace Go.Proofs.YtoibhmjjhgaimaaGreat
open Go.RowKit Go.Rep Go.Lim Go.Lin
end Go.Proofs.YtoibhmjjhgaimaaGreat
namespace Go.Lin
open Go.Lim
theorem b7z {n c:Nat} {m:Mat} (h:Shp n c m) (hn:1<=n):a0L m=c:=by
 rw[a2g (by rw[h.1];exact hn)];exact h.2 _ (List.getElem_mem _)
theorem b7L {n c:Nat} {m:Mat} (h:Shp n c m) (hn:n<=96) (hc:1<=c) (hc2:c<=96):a1z m=true:=by
 refine a1A.2 ⟨by rw[h.1];exact hn,fun i hi=>?_⟩;have h1:=h.2 _ (List.getElem_mem hi);refine⟨by omega,by omega,?_⟩;rw[h1,b7z h (by have:=h.1;omega)]
theorem b2Q {B:Nat} {m:Mat} (h:Go.Rep.BM B m) (hB:1<=B):HB B m:=fun i j=>by
 unfold ent;by_cases hi:i<m.length
 ·have e:m.getD i []=m[i]:=by simp[List.getD_eq_getElem?_getD,hi]
  rw[e];by_cases hj:j<(m[i]).length
  ·have:=h m[i] (List.getElem_mem _) (m[i])[j] (List.getElem_mem _)
   simpa[List.getD_eq_getElem?_getD,hj]using this
  ·rw[List.getD_eq_getElem?_getD,List.getElem?_eq_none (by omega)]
   show hq 0<=B
   rw[a2k];exact hB
 ·rw[List.getD_eq_getElem?_getD (l:=m),List.getElem?_eq_none (by omega)]
  show hq 0<=B
  rw[a2k];exact hB
theorem b2R {B:Nat} {m:Mat} (h:HB B m):Go.Rep.BM B m:=fun r hr q hq=>by
 obtain⟨i,hi,rfl⟩:=List.getElem_of_mem hr;obtain⟨j,hj,rfl⟩:=List.getElem_of_mem hq;have:=h i j;simpa[ent,List.getD_eq_getElem?_getD,hi,hj]using this
end Go.Lin
namespace Go.Proofs.YtoibhmjjhgaimaaGreat
open Go.RowKit Go.Rep Go.Lim Go.Lin
end Go.Proofs.YtoibhmjjhgaimaaGreat
namespace Go.Lin
open Go.Lim
theorem sqf {k:Nat} {m:Mat} (h:Shp k k m) (hk:k<=96):a1z m=true/\a0L m=k:=by
 by_cases h0:k=0
 ·have:m= []:=List.eq_nil_of_length_eq_zero (by rw[h.1];exact h0)
  subst this;exact⟨rfl,by rw[h0];rfl⟩
 ·exact⟨b7L h hk (by omega) hk,b7z h (by omega)⟩
theorem b4V {m:Mat} {n:Nat} (hT:a8c m n) (hn:n<=6):hq (a9g m n)<=68719476736:=by
 obtain⟨B,hB7,hBj⟩:=hT;have hBn:=hBj n (Nat.le_refl _);have h1:=b4O (f:=fun i=>ent (eN m n).1 i i) (fun i=>hBn i i) n;have h2:n*B<=6*B:=Nat.mul_le_mul_right _ hn;unfold a9g;split
 ·rw[a3P];omega
 ·omega
end Go.Lin
