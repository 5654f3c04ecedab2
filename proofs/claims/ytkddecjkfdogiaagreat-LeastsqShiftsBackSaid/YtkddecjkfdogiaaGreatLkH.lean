/- rational.Mul. Conditions: at most 2^36 digits. rational.Compare, Sign, Neg, Sub. Conditions: at most 2^36 digits. rational.Neg, Sub. Conditions: at most 2^36 digits. rational.Make, Div. Conditions: at most 2^36 digits. reference 03: one, Valid. Conditions: at most 2^36 digits. reference 03: Take, Den. Conditions: at most 2^36 digits. reference 03: TakeList. Conditions: at most 2^20 numbers of at most 2^36 digits. made: Mod, At, Number. Conditions: none but Go's own. Rows turned as law 06 turns them. Conditions: none. reference 03: over. Conditions: at most 2^38 digits. reference 03: FromInt, Sign, Neg. Conditions: at most 2^36 digits. reference 03: Add, Mul, Quo. Conditions: at most 2^36 digits. reference 06: Times, Plus. Conditions: at most 2^20 numbers of at most 2^36 digits. reference 03: Sub, Compare, Fraction, Same. Conditions: at most 2^36 digits. made: Number, Matrix. Conditions: few rows and columns. -/
import Derived.Test.YtkddecjkfdogiaaGreatLkG
namespace Go.Proofs.YtkddecjkfdogiaaGreat
open Go.RowKit Go.Rep Go.Lim
set_option maxRecDepth 100000 in
set_option maxHeartbeats 1600000 in
theorem b2I (X:Nat->Bool) (w:World) (u v:Value) (x y:Rat) (hX:HX X w) (hu:QV (mk X w) u x) (hv:QV (mk X w) v y):Calls Tryz.prog 147 #[u,v] w (a2w X w QC (x*y)):=by
 have hlx:=hid hu.hq;have hly:=hid hv.hq;obtain⟨s1,a1,n1,c1,d1,k1,e1,rfl⟩:=hu.shape;obtain⟨s2,a2,n2,c2,d2,k2,e2,rfl⟩:=hv.shape;obtain⟨W,hW,hE,b0,b1,b2,hz⟩:=a3m w #[.bool s1, .slice a1 n1 c1, .slice d1 k1 e1] #[.bool s2, .slice a2 n2 c2, .slice d2 k2 e2] #[.bool false, .slice none 0 0, .slice none 0 0] 32 32 32;have hXW:HX (a0i X w.heap.size 3) W:=hX.boxes hz;have hu1:=QV.mono _ _ _ _ (a0s (nb:=3) hE) hu;have hv1:=QV.mono _ _ _ _ (a0s (nb:=3) hE) hv;obtain⟨b,hb⟩:∃b,w.heap.size=b:=⟨_,rfl⟩;have hbw:w.heap.size<=b:=by omega
 rw[hb]at b0 b1 b2 hz hXW hu1 hv1;have hEd:Ext W W.drew:=(ExtX.refl W).drew;have hXd:HX (a0i X b 3) W.drew:=hXW;have hud:QV (mk (a0i X b 3) W.drew) (.agg #[.bool s1, .slice a1 n1 c1, .slice d1 k1 e1]) x:=hu1;have hvd:QV (mk (a0i X b 3) W.drew) (.agg #[.bool s2, .slice a2 n2 c2, .slice d2 k2 e2]) y:=hv1;have k00:=b0.cell 0 rfl;have k01:=b0.cell 1 rfl;have k02:=b0.cell 2 rfl;have k10:=b1.cell 0 rfl;have k11:=b1.cell 1 rfl;have k12:=b1.cell 2 rfl;clear hu hv;go_enter Tryz.func147,Tryz.ntmps147
 go_upto_region 1 with(fail)
 go_cut []from 5 to 8 (fun wx=>∃s3 a3 n3 c3 d3 k3 e3 s4 a4 n4 c4 d4 k4 e4,Bx wx b #[.bool s3, .slice a3 n3 c3, .slice d3 k3 e3] 32/\Bx wx (b+1) #[.bool s4, .slice a4 n4 c4, .slice d4 k4 e4] 32/\Bx wx (b+1+1) #[.bool false, .slice none 0 0, .slice none 0 0] 32/\QC (mk (a0i X b 3) wx) (.agg #[.bool s3, .slice a3 n3 c3, .slice d3 k3 e3]) x/\QC (mk (a0i X b 3) wx) (.agg #[.bool s4, .slice a4 n4 c4, .slice d4 k4 e4]) y/\Ext w wx)
 case first=>
  go_region_with (first|(go_at_call 170;(with_reducible refine(a4I (a0i X b 3) W.drew _ x hXd hud).mono ?_);rintro ee w5 ⟨hE5,u5,rfl,hq5⟩;obtain⟨s5,a5,n5,c5,d5,k5,e5,rfl⟩:=hq5.shape;have bb0:=b0.ext0 (hEd.trans hE5);have bb1:=b1.ext0 (hEd.trans hE5);have e00:=bb0.cell 0 rfl;have e01:=bb0.cell 1 rfl;have e02:=bb0.cell 2 rfl;have e10:=bb1.cell 0 rfl;have e11:=bb1.cell 1 rfl;have e12:=bb1.cell 2 rfl)|(go_at_call 170;(with_reducible refine(a4I (a0i X b 3) w5 _ y (HX.ext hXd hE5) (mkx QV.mono hvd hE5)).mono ?_);rintro ee w6 ⟨hE6,u6,rfl,hq6⟩;obtain⟨s6,a6,n6,c6,d6,k6,e6,rfl⟩:=hq6.shape;have bb2:=bb0.ext0 hE6;have bb3:=bb1.ext0 hE6;have g00:=bb2.cell 0 rfl;have g01:=bb2.cell 1 rfl;have g02:=bb2.cell 2 rfl;have g10:=bb3.cell 0 rfl;have g11:=bb3.cell 1 rfl;have g12:=bb3.cell 2 rfl;have fr0:=bb2.frozen 0;have fr1:=bb2.frozen 1;have fr4:=bb2.frozen 2;have fr2:=bb3.frozen 0;have fr3:=bb3.frozen 1;have fr5:=bb3.frozen 2))
  all_goals
   obtain⟨wf,hwf,q0,q1,q2,q3,q4⟩:=a3N (X:=X) (nb:=3) bb2 bb3 (hE.trans ((hEd.trans hE5).trans hE6)) hbw (by omega) (.bool s5) (.slice a5 n5 c5) (.slice d5 k5 e5) (.bool s6) (.slice a6 n6 c6) (.slice d6 k6 e6);rw[hwf];have hfx:QC (mk (a0i X b 3) wf) (.agg #[.bool s5, .slice a5 n5 c5, .slice d5 k5 e5]) x:=QC.mono _ _ _ _ q4 (mkx QC.mono hq5 hE6);have hfy:QC (mk (a0i X b 3) wf) (.agg #[.bool s6, .slice a6 n6 c6, .slice d6 k6 e6]) y:=QC.mono _ _ _ _ q4 hq6;have q5:=q2 (b+1+1) _ _ (by omega) (by omega) ((b2.ext0 (hEd.trans hE5)).ext0 hE6);clear e00 e01 e02 e10 e11 e12 g00 g01 g02 g10 g11 g12 fr0 fr1 fr2 fr3 fr4 fr5 k00 k01 k02 k10 k11 k12 hwf;go_wp2_with fail
   go_meet
   exact⟨_,_,_,_,_,_,_,_,_,_,_,_,_,_,q0,q1,q5,hfx,hfy,q3⟩
 case rest=>
  clear k00 k01 k02 k10 k11 k12 b0 b1 b2 hu1 hv1 hud hvd hXd hEd hW;obtain⟨s3,a3,n3,c3,d3,k3,e3,s4,a4,n4,c4,d4,k4,e4,b0,b1,b2,hx,hy,hE1⟩:=hcut;have hzz:w.heap.size+3<=wc.heap.size:=by have:=b2.lt;omega
  obtain⟨hxz,hxm,hxdn⟩:=hx.num;obtain⟨hyz,hym,hydn⟩:=hy.num;have hXc:HX (a0i X b 3) wc:=hX.boxes' hE1 (by have:=hzz;omega) hzz;have k00:=b0.cell 0 rfl;have k01:=b0.cell 1 rfl;have k02:=b0.cell 2 rfl;have k10:=b1.cell 0 rfl;have k11:=b1.cell 1 rfl;have k12:=b1.cell 2 rfl;have hEd:Ext wc wc.drew:=(ExtX.refl wc).drew;have hXd:HX (a0i X b 3) wc.drew:=hXc;have hxd:QC (mk (a0i X b 3) wc.drew) (.agg #[.bool s3, .slice a3 n3 c3, .slice d3 k3 e3]) x:=hx;have hyd:QC (mk (a0i X b 3) wc.drew) (.agg #[.bool s4, .slice a4 n4 c4, .slice d4 k4 e4]) y:=hy;have hxzd:ZC (mk (a0i X b 3) wc.drew) (.agg #[.bool s3, .slice a3 n3 c3]) x.num:=hxz;have hyzd:ZC (mk (a0i X b 3) wc.drew) (.agg #[.bool s4, .slice a4 n4 c4]) y.num:=hyz;have bxn:lg x.num.natAbs<=549755813888:=Nat.le_trans (Nat.le_trans (a1k x) hlx.out) (by omega);have byn:lg y.num.natAbs<=549755813888:=Nat.le_trans (Nat.le_trans (a1k y) hly.out) (by omega);have bxd:lg x.den<=549755813888:=Nat.le_trans (Nat.le_trans (a1l x) hlx.out) (by omega);have byd:lg y.den<=549755813888:=Nat.le_trans (Nat.le_trans (a1l y) hly.out) (by omega);have bp1:lg (x.num*(y.den:Int)).natAbs<=274877906944:=by rw[Int.natAbs_mul,Int.natAbs_natCast];have:=a1R x.num.natAbs y.den;have:=a1k x;have:=a1l y;have:=hlx.out;have:=hly.out;omega
  have bp2:lg (y.num*(x.den:Int)).natAbs<=274877906944:=by rw[Int.natAbs_mul,Int.natAbs_natCast];have:=a1R y.num.natAbs x.den;have:=a1k y;have:=a1l x;have:=hlx.out;have:=hly.out;omega
  have bdd:lg (x.den*y.den)<=274877906944:=by have:=a1R x.den y.den;have:=a1l x;have:=a1l y;have:=hlx.out;have:=hly.out;omega
  have bnn:lg (x.num*y.num).natAbs<=274877906944:=by rw[Int.natAbs_mul];have:=a1R x.num.natAbs y.num.natAbs;have:=a1k x;have:=a1k y;have:=hlx.out;have:=hly.out;omega
  have bd0:0<x.den*y.den:=Nat.mul_pos x.den_pos y.den_pos;have hB:=hid (And.intro b0 b1);have hS:Hid (∀W',Ext wc.drew W'->W'.cell? ⟨b,0,none⟩=some (.bool s3)/\W'.cell? ⟨b,1,none⟩=some (.slice a3 n3 c3)/\W'.cell? ⟨b,2,none⟩=some (.slice d3 k3 e3)/\W'.cell? ⟨b+1,0,none⟩=some (.bool s4)/\W'.cell? ⟨b+1,1,none⟩=some (.slice a4 n4 c4)/\W'.cell? ⟨b+1,2,none⟩=some (.slice d4 k4 e4)):=
   hid fun W' h=>⟨(b0.ext0 (hEd.trans h)).cell 0 rfl,(b0.ext0 (hEd.trans h)).cell 1 rfl,(b0.ext0 (hEd.trans h)).cell 2 rfl,(b1.ext0 (hEd.trans h)).cell 0 rfl,(b1.ext0 (hEd.trans h)).cell 1 rfl,(b1.ext0 (hEd.trans h)).cell 2 rfl⟩
  have hl3:=hxdn.len0;have hl4:=hydn.len0;rw[a3M]at hl3 hl4;have hxv:=hxzd.zv bxn;have hyv:=hyzd.zv byn;have hfin:Hid (mkRat (x.num*y.num) (x.den*y.den)=x*y):=hid (Rat.mul_def' x y).symm;by_cases hk:k3=0/\k4=0
  ·have hd3:=hid (hl3.1 hk.1)
   have hd4:=hid (hl4.1 hk.2);obtain⟨rfl,rfl⟩:=hk;have hsum:Hid (((x.num*y.num:Int):Rat)=x*y):=hid (by
    rw[Rat.intCast_mul]
    conv=>rhs;rw[<-Rat.mkRat_self x,<-Rat.mkRat_self y]
    rw[hd3.out,hd4.out,<-Rat.mk_den_one,<-Rat.mk_den_one,Rat.mk_eq_mkRat,Rat.mk_eq_mkRat])
   clear hl3 hl4;go_wp2_with fail
   refine(b5F (a0i X b 3) wc _ _ _ _ hXc (hxz.zv bxn) (hyz.zv byn)).mono ?_;rintro ee w5 ⟨hE5,u5,rfl,s6,a6,c6,l6,rfl,h61,h62,h63⟩;have b2':=b2.ext0 hE5;have hcq:=a4N.ofInt h62;rw[hsum.out]at hcq;clear k00 k01 k02 k10 k11 k12;go_wp2_with ((with_reducible show wpList _ _ _ (⟨_, .store _ _ _,_,_,_,_⟩::_) _ _);refine a0c a0w rfl rfl b2' rfl rfl (a3n _ _ _ _ _ _ _) ?_;intro w7 r1 r2)
   have h7:=(h63.mono (a0b.mono _) (a0h r2 (by omega) (by omega))).mono (a0b.mono _) a0m;exact bodyPost_ret (a0f rfl rfl a0w r1 rfl) rfl ⟨ExtX.box (hE1.trans hE5) r2 (by omega),_,rfl,s6,a6,c6,l6,none,0,[],rfl,h61,Nat.le_refl _,hcq,h7,Sl.nil _ _ _ _⟩
  ·rcases(by omega:¬k3=0\/(k3=0/\¬k4=0))with h3|⟨h3,h4⟩
   ·have hI:((k3:Int)==0)=false:=a3E (by omega)
    clear hk hl3 hl4 h3;go_wp2_with fail
    go_region_held3 (fun w'=>w'.cell? ⟨b,0,none⟩=some (.bool s3)/\w'.cell? ⟨b,1,none⟩=some (.slice a3 n3 c3)/\w'.cell? ⟨b,2,none⟩=some (.slice d3 k3 e3)/\w'.cell? ⟨b+1,0,none⟩=some (.bool s4)/\w'.cell? ⟨b+1,1,none⟩=some (.slice a4 n4 c4)/\w'.cell? ⟨b+1,2,none⟩=some (.slice d4 k4 e4))
     (first|exact hS.out _ t1|exact hS.out _ t2|exact hS.out _ t3|exact hS.out _ t4|exact hS.out _ t5|exact⟨((hB.out.1.ext0 (hEd.trans t5)).ext (bb2.set3 _ _ _).2 (a0e (by omega))).cell 0 rfl,((hB.out.1.ext0 (hEd.trans t5)).ext (bb2.set3 _ _ _).2 (a0e (by omega))).cell 1 rfl,((hB.out.1.ext0 (hEd.trans t5)).ext (bb2.set3 _ _ _).2 (a0e (by omega))).cell 2 rfl,((hB.out.2.ext0 (hEd.trans t5)).ext (bb2.set3 _ _ _).2 (a0e (by omega))).cell 0 rfl,((hB.out.2.ext0 (hEd.trans t5)).ext (bb2.set3 _ _ _).2 (a0e (by omega))).cell 1 rfl,((hB.out.2.ext0 (hEd.trans t5)).ext (bb2.set3 _ _ _).2 (a0e (by omega))).cell 2 rfl⟩|go_keep)
     (first|(go_at_call 213;(with_reducible refine(b5F (a0i X b 3) wc.drew _ _ _ _ hXd hxv hyv).mono ?_);rintro ee w5 ⟨t1,u5,rfl,hu5⟩;have hX5:=HX.ext hXd t1;have hx5:=mkx QC.mono hxd t1)|(go_at_call 173;(with_reducible refine(a8e (a0i X b 3) w5 _ x hX5 hx5).mono ?_);rintro ee w6 ⟨hE6,u6,rfl,hu6⟩;have t2:=t1.trans hE6;have hX6:=HX.ext hXd t2;have hy6:=mkx QC.mono hyd t2)|(go_at_call 173;(with_reducible refine(a8e (a0i X b 3) w6 _ y hX6 hy6).mono ?_);rintro ee w7 ⟨hE7,u7,rfl,hu7⟩;have t3:=t2.trans hE7;have hX7:=HX.ext hXd t3;have hm6:=(mkx NC.mono hu6 hE7).nv (Nat.le_trans bxd (by decide));have hm7:=hu7.nv (Nat.le_trans byd (by decide)))|(go_at_call 212;(with_reducible refine(b2u hX7 hm6 hm7).mono ?_);rintro ee w8 ⟨hE8,u8,rfl,hu8⟩;have t4:=t3.trans hE8;have hX8:=HX.ext hXd t4;have hz5:=mkx ZC.mono hu5 (hE6.trans (hE7.trans hE8)))|(go_at_call 211;(with_reducible refine(a4q (a0i X b 3) w8 _ _ _ _ hX8 hz5 hu8 (Nat.le_trans bnn (by decide)) (Nat.le_trans bdd (by decide)) bd0).mono ?_);rintro ee w13 ⟨hE13,u13,rfl,hu13⟩;obtain⟨s13,a13,n13,c13,d13,k13,e13,rfl⟩:=hu13.shape;have t5:=t4.trans hE13;have bb2:=b2.ext0 (hEd.trans t5);have g0:=bb2.cell 0 rfl;have g1:=bb2.cell 1 rfl;have g2:=bb2.cell 2 rfl;have f0:=bb2.frozen 0;have f1:=bb2.frozen 1;have f2:=bb2.frozen 2))
    obtain⟨r1,r2⟩:=bb2.set3 (.bool s13) (.slice a13 n13 c13) (.slice d13 k13 e13);have h7:=QC.mono _ _ _ _ a0m (QC.mono _ _ _ _ (a0h r2 (by omega) (by omega)) hu13);rw[hfin.out]at h7;have hEf:Ext w _:=ExtX.box (hE1.trans (hEd.trans t5)) r2 (by omega);clear g0 g1 g2 f0 f1 f2 k00 k01 k02 k10 k11 k12 hS hB;go_wp2_with fail
    exact bodyPost_ret (a0f rfl rfl a0w r1 rfl) rfl ⟨hEf,_,rfl,h7⟩
   ·have hI:((k4:Int)==0)=false:=a3E (by omega)
    subst h3;clear hk hl3 hl4 h4;go_wp2_with fail
    go_region_held3 (fun w'=>w'.cell? ⟨b,0,none⟩=some (.bool s3)/\w'.cell? ⟨b,1,none⟩=some (.slice a3 n3 c3)/\w'.cell? ⟨b,2,none⟩=some (.slice d3 0 e3)/\w'.cell? ⟨b+1,0,none⟩=some (.bool s4)/\w'.cell? ⟨b+1,1,none⟩=some (.slice a4 n4 c4)/\w'.cell? ⟨b+1,2,none⟩=some (.slice d4 k4 e4))
     (first|exact hS.out _ t1|exact hS.out _ t2|exact hS.out _ t3|exact hS.out _ t4|exact hS.out _ t5|exact⟨((hB.out.1.ext0 (hEd.trans t5)).ext (bb2.set3 _ _ _).2 (a0e (by omega))).cell 0 rfl,((hB.out.1.ext0 (hEd.trans t5)).ext (bb2.set3 _ _ _).2 (a0e (by omega))).cell 1 rfl,((hB.out.1.ext0 (hEd.trans t5)).ext (bb2.set3 _ _ _).2 (a0e (by omega))).cell 2 rfl,((hB.out.2.ext0 (hEd.trans t5)).ext (bb2.set3 _ _ _).2 (a0e (by omega))).cell 0 rfl,((hB.out.2.ext0 (hEd.trans t5)).ext (bb2.set3 _ _ _).2 (a0e (by omega))).cell 1 rfl,((hB.out.2.ext0 (hEd.trans t5)).ext (bb2.set3 _ _ _).2 (a0e (by omega))).cell 2 rfl⟩|go_keep)
     (first|(go_at_call 213;(with_reducible refine(b5F (a0i X b 3) wc.drew _ _ _ _ hXd hxv hyv).mono ?_);rintro ee w5 ⟨t1,u5,rfl,hu5⟩;have hX5:=HX.ext hXd t1;have hx5:=mkx QC.mono hxd t1)|(go_at_call 173;(with_reducible refine(a8e (a0i X b 3) w5 _ x hX5 hx5).mono ?_);rintro ee w6 ⟨hE6,u6,rfl,hu6⟩;have t2:=t1.trans hE6;have hX6:=HX.ext hXd t2;have hy6:=mkx QC.mono hyd t2)|(go_at_call 173;(with_reducible refine(a8e (a0i X b 3) w6 _ y hX6 hy6).mono ?_);rintro ee w7 ⟨hE7,u7,rfl,hu7⟩;have t3:=t2.trans hE7;have hX7:=HX.ext hXd t3;have hm6:=(mkx NC.mono hu6 hE7).nv (Nat.le_trans bxd (by decide));have hm7:=hu7.nv (Nat.le_trans byd (by decide)))|(go_at_call 212;(with_reducible refine(b2u hX7 hm6 hm7).mono ?_);rintro ee w8 ⟨hE8,u8,rfl,hu8⟩;have t4:=t3.trans hE8;have hX8:=HX.ext hXd t4;have hz5:=mkx ZC.mono hu5 (hE6.trans (hE7.trans hE8)))|(go_at_call 211;(with_reducible refine(a4q (a0i X b 3) w8 _ _ _ _ hX8 hz5 hu8 (Nat.le_trans bnn (by decide)) (Nat.le_trans bdd (by decide)) bd0).mono ?_);rintro ee w13 ⟨hE13,u13,rfl,hu13⟩;obtain⟨s13,a13,n13,c13,d13,k13,e13,rfl⟩:=hu13.shape;have t5:=t4.trans hE13;have bb2:=b2.ext0 (hEd.trans t5);have g0:=bb2.cell 0 rfl;have g1:=bb2.cell 1 rfl;have g2:=bb2.cell 2 rfl;have f0:=bb2.frozen 0;have f1:=bb2.frozen 1;have f2:=bb2.frozen 2))
    obtain⟨r1,r2⟩:=bb2.set3 (.bool s13) (.slice a13 n13 c13) (.slice d13 k13 e13);have h7:=QC.mono _ _ _ _ a0m (QC.mono _ _ _ _ (a0h r2 (by omega) (by omega)) hu13);rw[hfin.out]at h7;have hEf:Ext w _:=ExtX.box (hE1.trans (hEd.trans t5)) r2 (by omega);clear g0 g1 g2 f0 f1 f2 k00 k01 k02 k10 k11 k12 hS hB;go_wp2_with fail
    exact bodyPost_ret (a0f rfl rfl a0w r1 rfl) rfl ⟨hEf,_,rfl,h7⟩
theorem a6S (s:Bool) (a d:Option Addr) (n c k e:Nat) (W:World):(Instr.field 32 (.agg #[.bool s, .slice a n c, .slice d k e]) 0).run Tryz.prog W= .ok (.agg #[.bool s, .slice a n c]) W:=by kernel_rfl
set_option maxRecDepth 100000 in
theorem b1K (X:Nat->Bool) (w:World) (u:Value) (x:Rat) (hX:HX X w) (hu:QV (mk X w) u x):Calls Tryz.prog 143 #[u] w (a5A w x.num.sign):=by
 have hlx:=hid hu.hq;obtain⟨s1,a1,n1,c1,d1,k1,e1,rfl⟩:=hu.shape;obtain⟨W,hW,hE,b0,hz⟩:=a1L w #[.bool s1, .slice a1 n1 c1, .slice d1 k1 e1] 32;have hXW:HX X W:=hX.ext hE;have hu1:=mkx QV.mono hu hE;obtain⟨b,hb⟩:∃b,w.heap.size=b:=⟨_,rfl⟩;rw[hb]at b0 hz;have k00:=b0.cell 0 rfl;have k01:=b0.cell 1 rfl;have k02:=b0.cell 2 rfl;have hfl:=a6S;clear hu;go_enter Tryz.func143,Tryz.ntmps143
 go_wp2_with fail
 refine(a4I X W _ x hXW hu1).mono ?_;rintro ee w5 ⟨hE5,u5,rfl,hq5⟩;obtain⟨s5,a5,n5,c5,d5,k5,e5,rfl⟩:=hq5.shape;have hz5:=hq5.num.1.zv (Nat.le_trans (Nat.le_trans (a1k x) hlx.out) (by omega));clear k00 k01 k02;go_wp2_with fail
 refine(b1o X w5 _ _ (hXW.ext hE5) hz5).mono ?_;rintro ee w6 ⟨hE6,rfl⟩;go_wp2_with fail
 go_ret
 exact⟨hE.trans (hE5.trans hE6),rfl⟩
theorem b5a (x:Rat):dn (-x)=dn x:=by unfold dn;rw[Rat.neg_den]
set_option maxRecDepth 100000 in
theorem b6C (X:Nat->Bool) (w:World) (u:Value) (x:Rat) (hX:HX X w) (hu:QV (mk X w) u x):Calls Tryz.prog 202 #[u] w (a2w X w QC (-x)):=by
 have hlx:=hid hu.hq;obtain⟨s1,a1,n1,c1,d1,k1,e1,rfl⟩:=hu.shape;obtain⟨W,hW,hE,b0,b1,hz⟩:=a1Y w #[.bool s1, .slice a1 n1 c1, .slice d1 k1 e1] #[.bool false, .slice none 0 0, .slice none 0 0] 32 32;have hXW:HX (a0i X w.heap.size 2) W:=hX.boxes hz;have hu1:=QV.mono _ _ _ _ (a0s (nb:=2) hE) hu;obtain⟨b,hb⟩:∃b,w.heap.size=b:=⟨_,rfl⟩;have hbw:w.heap.size<=b:=by omega
 rw[hb]at b0 b1 hz hXW hu1;have k00:=b0.cell 0 rfl;have k01:=b0.cell 1 rfl;have k02:=b0.cell 2 rfl;clear hu;go_enter Tryz.func202,Tryz.ntmps202
 go_wp2_with fail
 refine(a4I (a0i X b 2) W _ x hXW hu1).mono ?_;rintro e w5 ⟨hE5,u5,rfl,hq5⟩;obtain⟨s5,a5,n5,c5,d5,k5,e5,rfl⟩:=hq5.shape;have hX5:=hXW.ext hE5;have bb0:=b0.ext0 hE5;have bb1:=b1.ext0 hE5;clear k00 k01 k02;go_upto_region 2 with((with_reducible show wpList _ _ _ (⟨_, .store _ _ _,_,_,_,_⟩::_) _ _);refine a0c a0w rfl rfl bb0 rfl rfl (a3n _ _ _ _ _ _ _) ?_;intro w7 r1 r2;have k00:=r1.cell 0 rfl;have k01:=r1.cell 1 rfl;have k02:=r1.cell 2 rfl)
 have hX7:=hX5.ext r2;have bb3:=bb1.ext r2 (a0e (by omega));have hx7:=QC.mono _ _ _ _ (a0h (X:=X) (lo:=b) (nb:=2) r2 (by omega) (by omega)) hq5;have hE7:Ext w w7:=ExtX.box (hE.trans hE5) r2 (by omega);obtain⟨hxz,hxm,hxdn⟩:=hx7.num;have hEd:Ext w7 w7.drew:=(ExtX.refl w7).drew;have hXd:HX (a0i X b 2) w7.drew:=hX7;have hxzd:ZC (mk (a0i X b 2) w7.drew) (.agg #[.bool s5, .slice a5 n5 c5]) x.num:=hxz;have hxdd:NC (mk (a0i X b 2) w7.drew) (.slice d5 k5 e5) (dn x):=hxdn;have bxn:lg x.num.natAbs<=549755813888:=Nat.le_trans (Nat.le_trans (a1k x) hlx.out) (by omega);have bxd:lg (dn x)<=549755813888:=Nat.le_trans (Nat.le_trans (b4T x) hlx.out) (by omega);have hxv:=hxzd.zv bxn;have hS:Hid (∀W',Ext w7.drew W'->W'.cell? ⟨b,0,none⟩=some (.bool s5)/\W'.cell? ⟨b,1,none⟩=some (.slice a5 n5 c5)/\W'.cell? ⟨b,2,none⟩=some (.slice d5 k5 e5)):=
  hid fun W' h=>⟨(r1.ext0 (hEd.trans h)).cell 0 rfl,(r1.ext0 (hEd.trans h)).cell 1 rfl,(r1.ext0 (hEd.trans h)).cell 2 rfl⟩
 go_region_held3 (fun w'=>w'.cell? ⟨b,0,none⟩=some (.bool s5)/\w'.cell? ⟨b,1,none⟩=some (.slice a5 n5 c5)/\w'.cell? ⟨b,2,none⟩=some (.slice d5 k5 e5))
  (first|exact hS.out _ t1|exact hS.out _ t2|exact⟨((r1.ext0 (hEd.trans t2)).ext (bb2.set3 _ _ _).2 (a0e (by omega))).cell 0 rfl,((r1.ext0 (hEd.trans t2)).ext (bb2.set3 _ _ _).2 (a0e (by omega))).cell 1 rfl,((r1.ext0 (hEd.trans t2)).ext (bb2.set3 _ _ _).2 (a0e (by omega))).cell 2 rfl⟩|go_keep)
  (first|(go_at_call 246;(with_reducible refine(b6s (a0i X b 2) w7.drew _ _ hXd hxv).mono ?_);rintro ee w8 ⟨t1,u8,rfl,s8,a8,c8,l8,rfl,h81,h82,h83⟩;have hX8:=HX.ext hXd t1;have hm8:=(mkx NC.mono hxdd t1).nv (Nat.le_trans bxd (by decide));have hz8:=NC.nv (NC.zero (mk (a0i X b 2) w8)) (by decide))|(go_at_call 153;(with_reducible refine(b5M hX8 hm8 hz8).mono ?_);rintro ee w9 ⟨hE9,u9,rfl,a9,c9,l9,rfl,h91,h92,h93⟩;have t2:=t1.trans hE9;have hh8:=Sl.mono (a0b.mono _) (a0o hE9) h83;have bb2:=bb3.ext0 (hEd.trans t2);have g0:=bb2.cell 0 rfl;have g1:=bb2.cell 1 rfl;have g2:=bb2.cell 2 rfl;have f0:=bb2.frozen 0;have f1:=bb2.frozen 1;have f2:=bb2.frozen 2))
 obtain⟨q1,q2⟩:=bb2.set3 (.bool s8) (.slice a8 l8.length c8) (.slice a9 l9.length c9);have hz:ZC (mk (a0i X b 2) w9) (.agg #[.bool s8, .slice a8 l8.length c8]) (-x).num:=⟨s8,a8,c8,l8,rfl,h81,by rw[Rat.neg_num];exact h82,hh8⟩;have hd:NC (mk (a0i X b 2) w9) (.slice a9 l9.length c9) (dn (-x)):=⟨a9,c9,l9,rfl,h91,by rw[b5a];exact h92,h93⟩;have h7:=QC.mono _ _ _ _ a0m (QC.mono _ _ _ _ (a0h q2 (by omega) (by omega)) (QC.of hz hd));have hEf:Ext w _:=ExtX.box (hE7.trans (hEd.trans t2)) q2 (by omega);clear g0 g1 g2 f0 f1 f2 k00 k01 k02 hS;go_wp2_with fail
 exact bodyPost_ret (a0f rfl rfl a0w q1 rfl) rfl ⟨hEf,_,rfl,h7⟩
set_option maxRecDepth 100000 in
theorem b5U (X:Nat->Bool) (w:World) (u v:Value) (x y:Rat) (hX:HX X w) (hu:QV (mk X w) u x) (hv:QV (mk X w) v y):Calls Tryz.prog 132 #[u,v] w (a2w X w QC (x - y)):=by
 have hlx:=hid hu.hq;have hly:=hid hv.hq;obtain⟨s1,a1,n1,c1,d1,k1,e1,rfl⟩:=hu.shape;obtain⟨s2,a2,n2,c2,d2,k2,e2,rfl⟩:=hv.shape;obtain⟨W,hW,hE,b0,b1,b2,hz⟩:=a3m w #[.bool s1, .slice a1 n1 c1, .slice d1 k1 e1] #[.bool s2, .slice a2 n2 c2, .slice d2 k2 e2] #[.bool false, .slice none 0 0, .slice none 0 0] 32 32 32;have hXW:HX (a0i X w.heap.size 3) W:=hX.boxes hz;have hu1:=QV.mono _ _ _ _ (a0s (nb:=3) hE) hu;have hv1:=QV.mono _ _ _ _ (a0s (nb:=3) hE) hv;obtain⟨b,hb⟩:∃b,w.heap.size=b:=⟨_,rfl⟩;have hbw:w.heap.size<=b:=by omega
 rw[hb]at b0 b1 b2 hz hXW hu1 hv1;have hEd:Ext W W.drew:=(ExtX.refl W).drew;have hXd:HX (a0i X b 3) W.drew:=hXW;have hud:QV (mk (a0i X b 3) W.drew) (.agg #[.bool s1, .slice a1 n1 c1, .slice d1 k1 e1]) x:=hu1;have hvd:QV (mk (a0i X b 3) W.drew) (.agg #[.bool s2, .slice a2 n2 c2, .slice d2 k2 e2]) y:=hv1;have k00:=b0.cell 0 rfl;have k01:=b0.cell 1 rfl;have k02:=b0.cell 2 rfl;have k10:=b1.cell 0 rfl;have k11:=b1.cell 1 rfl;have k12:=b1.cell 2 rfl;clear hu hv;have hB:=hid (And.intro b0 b1);have hS:Hid (∀W',Ext W.drew W'->W'.cell? ⟨b,0,none⟩=some (.bool s1)/\W'.cell? ⟨b,1,none⟩=some (.slice a1 n1 c1)/\W'.cell? ⟨b,2,none⟩=some (.slice d1 k1 e1)/\W'.cell? ⟨b+1,0,none⟩=some (.bool s2)/\W'.cell? ⟨b+1,1,none⟩=some (.slice a2 n2 c2)/\W'.cell? ⟨b+1,2,none⟩=some (.slice d2 k2 e2)):=
  hid fun W' h=>⟨(b0.ext0 (hEd.trans h)).cell 0 rfl,(b0.ext0 (hEd.trans h)).cell 1 rfl,(b0.ext0 (hEd.trans h)).cell 2 rfl,(b1.ext0 (hEd.trans h)).cell 0 rfl,(b1.ext0 (hEd.trans h)).cell 1 rfl,(b1.ext0 (hEd.trans h)).cell 2 rfl⟩
 have hny:=hid (show hq (-y)<=68719476736 by rw[a8c];exact hly.out);have hsum:Hid (x+ -y=x - y):=hid (Rat.sub_eq_add_neg x y).symm;go_enter Tryz.func132,Tryz.ntmps132
 go_upto_region 1 with(fail)
 go_region_held3 (fun w'=>w'.cell? ⟨b,0,none⟩=some (.bool s1)/\w'.cell? ⟨b,1,none⟩=some (.slice a1 n1 c1)/\w'.cell? ⟨b,2,none⟩=some (.slice d1 k1 e1)/\w'.cell? ⟨b+1,0,none⟩=some (.bool s2)/\w'.cell? ⟨b+1,1,none⟩=some (.slice a2 n2 c2)/\w'.cell? ⟨b+1,2,none⟩=some (.slice d2 k2 e2))
  (first|exact hS.out _ t1|exact hS.out _ t2|exact⟨((hB.out.1.ext0 (hEd.trans t2)).ext (bb2.set3 _ _ _).2 (a0e (by omega))).cell 0 rfl,((hB.out.1.ext0 (hEd.trans t2)).ext (bb2.set3 _ _ _).2 (a0e (by omega))).cell 1 rfl,((hB.out.1.ext0 (hEd.trans t2)).ext (bb2.set3 _ _ _).2 (a0e (by omega))).cell 2 rfl,((hB.out.2.ext0 (hEd.trans t2)).ext (bb2.set3 _ _ _).2 (a0e (by omega))).cell 0 rfl,((hB.out.2.ext0 (hEd.trans t2)).ext (bb2.set3 _ _ _).2 (a0e (by omega))).cell 1 rfl,((hB.out.2.ext0 (hEd.trans t2)).ext (bb2.set3 _ _ _).2 (a0e (by omega))).cell 2 rfl⟩|go_keep)
  (first|(go_at_call 202;(with_reducible refine(b6C (a0i X b 3) W.drew _ y hXd hvd).mono ?_);rintro ee w5 ⟨t1,u5,rfl,hu5⟩;have hX5:=HX.ext hXd t1;have hx5:=mkx QV.mono hud t1)|(go_at_call 146;(with_reducible refine(b2H (a0i X b 3) w5 _ _ x (-y) hX5 hx5 (hu5.qv hny.out)).mono ?_);rintro ee w6 ⟨hE6,u6,rfl,hu6⟩;obtain⟨s6,a6,n6,c6,d6,k6,e6,rfl⟩:=hu6.shape;have t2:=t1.trans hE6;have bb2:=b2.ext0 (hEd.trans t2);have g0:=bb2.cell 0 rfl;have g1:=bb2.cell 1 rfl;have g2:=bb2.cell 2 rfl;have f0:=bb2.frozen 0;have f1:=bb2.frozen 1;have f2:=bb2.frozen 2))
 rw[hsum.out]at hu6;obtain⟨q1,q2⟩:=bb2.set3 (.bool s6) (.slice a6 n6 c6) (.slice d6 k6 e6);have h7:=QC.mono _ _ _ _ a0m (QC.mono _ _ _ _ (a0h q2 (by omega) (by omega)) hu6);have hEf:Ext w _:=ExtX.box (hE.trans (hEd.trans t2)) q2 (by omega);clear g0 g1 g2 f0 f1 f2 k00 k01 k02 k10 k11 k12 hS hB;go_wp2_with fail
 exact bodyPost_ret (a0f rfl rfl a0w q1 rfl) rfl ⟨hEf,_,rfl,h7⟩
def e5 (b:Bool):Int:=if b then 5 else 0
def b5b (X:Nat->Bool) (w:World) (q:Rat) (c:Int) (e:Ending) (w':World):Prop:=Ext w w'/\∃u,e= .returned (.tuple #[u, .int .i64 c])/\QC (mk X w') u q
theorem b2J (x y:Int) (h:0<y):mkRat x y.natAbs=(x:Rat)/(y:Rat):=by
 rw[Rat.mkRat_eq_div,<-Rat.intCast_natCast,Int.natAbs_of_nonneg (by omega)]
theorem b5c (x y:Int) (h:y<0):mkRat (-x) y.natAbs=(x:Rat)/(y:Rat):=by
 rw[Rat.mkRat_eq_div,<-Rat.intCast_natCast,Int.ofNat_natAbs_of_nonpos (by omega),Rat.intCast_neg,Rat.intCast_neg,Rat.div_def,Rat.div_def,show(-(y:Rat))⁻¹= -(y:Rat)⁻¹ by grind];grind
theorem _root_.Go.Rep.ZC.mag {h:Mem} {s:Bool} {ao:Option Addr} {n c:Nat} {y:Int} (hu:ZC h (.agg #[.bool s, .slice ao n c]) y):NC h (.slice ao n c) y.natAbs:=by
 obtain⟨_,_,_,l,heq,h1,h2,h3⟩:=hu;simp only[Value.agg.injEq,Array.mk.injEq,List.cons.injEq,Value.bool.injEq,Value.slice.injEq,and_true]at heq;obtain⟨rfl,rfl,rfl,rfl⟩:=heq;exact⟨_,_,_,rfl,h1,h2.2,h3⟩
theorem _root_.Go.Rep.ZC.shape {h:Mem} {u:Value} {q:Int} (hu:ZC h u q):∃s ao n c,u= .agg #[.bool s, .slice ao n c]:=by
 obtain⟨s,ao,c,m,rfl,_⟩:=hu;exact⟨_,_,_,_,rfl⟩
set_option maxRecDepth 100000 in
theorem b5V (X:Nat->Bool) (w:World) (u v:Value) (x y:Int) (hX:HX X w) (hu:ZC (mk X w) u x) (hv:ZC (mk X w) v y) (hx:lg x.natAbs<=549755813888) (hy:lg y.natAbs<=549755813888):Calls Tryz.prog 248 #[u,v] w (b5b X w ((x:Rat)/(y:Rat)) (e5 (decide (y=0)))):=by
 have hlx:=hid hx;have hly:=hid hy;obtain⟨s1,a1,n1,c1,rfl⟩:=hu.shape;obtain⟨s2,a2,n2,c2,rfl⟩:=hv.shape;obtain⟨W,hW,hE,b0,b1,b2,hz⟩:=a3m w #[.bool s1, .slice a1 n1 c1] #[.bool s2, .slice a2 n2 c2] #[.bool false, .slice none 0 0, .slice none 0 0] 30 30 32;have hXW:HX (a0i X w.heap.size 3) W:=hX.boxes hz;have hu1:=ZC.mono _ _ _ _ (a0s (nb:=3) hE) hu;have hv1:=ZC.mono _ _ _ _ (a0s (nb:=3) hE) hv;obtain⟨b,hb⟩:∃b,w.heap.size=b:=⟨_,rfl⟩;have hbw:w.heap.size<=b:=by omega
 rw[hb]at b0 b1 b2 hz hXW hu1 hv1;have hvz:=hv1.zv hy;have huz:=hu1.zv hx;have k00:=b0.cell 0 rfl;have k01:=b0.cell 1 rfl;have k10:=b1.cell 0 rfl;have k11:=b1.cell 1 rfl;have h0:y=0\/0<y\/y<0:=by omega
 obtain⟨ec,hec'⟩:∃ec:Int,e5 (decide (y=0))=ec:=⟨_,rfl⟩;obtain⟨q,hq'⟩:∃q:Rat,(x:Rat)/(y:Rat)=q:=⟨_,rfl⟩;rw[hec',hq'];clear hu hv hx hy;go_enter Tryz.func248,Tryz.ntmps248
 go_wp2_with fail
 refine(b1o (a0i X b 3) W _ _ hXW hvz).mono ?_;rintro e w5 ⟨hE5,rfl⟩;have bb0:=b0.ext0 hE5;have bb1:=b1.ext0 hE5;have bb2:=b2.ext0 hE5;have j00:=bb0.cell 0 rfl;have j01:=bb0.cell 1 rfl;have j10:=bb1.cell 0 rfl;have j11:=bb1.cell 1 rfl;clear k00 k01 k10 k11;rcases h0 with h0|h0|h0
 ·have hec:Hid ((5:Int)=ec):=hid (by rw[<-hec',decide_eq_true h0];rfl)
  have hres:Hid ((0:Rat)=q):=hid (by rw[<-hq',h0,Rat.intCast_zero,Rat.div_def,Rat.inv_zero,Rat.mul_zero]);have hI:(y.sign==0)=true:=by rw[h0];rfl
  generalize y.sign=sgy at*;clear h0 hec' hq';go_wp2_with ((with_reducible show wpList _ _ _ (⟨_, .store _ _ _,_,_,_,_⟩::_) _ _);refine a0c a0w rfl rfl bb2 rfl rfl (a3n _ _ _ _ _ _ _) ?_;intro w7 r1 r2)
  exact bodyPost_ret (a0P rfl rfl a0w r1 rfl) rfl ⟨ExtX.box (hE.trans hE5) r2 (by omega),_,by rw[<-hec.out];rfl,by rw[<-hres.out];exact QC.zero _⟩
 ·have hec:Hid (ec=(0:Int)):=hid (by rw[<-hec',decide_eq_false (by omega)];rfl)
  have hres:Hid (mkRat x y.natAbs=q):=hid (by rw[<-hq'];exact b2J x y h0);have hI:(y.sign==0)=false:=by rw[Int.sign_eq_one_of_pos h0];rfl
  have hI2:decide (y.sign<0)=false:=by rw[Int.sign_eq_one_of_pos h0];rfl
  have hy0:Hid (0<y.natAbs):=hid (by omega);have hvz5:=mkx ZV.mono hvz hE5;have hXs5:=hXW.ext hE5;clear h0 hec' hq';go_wp2_with fail
  refine(b1o (a0i X b 3) w5 _ _ hXs5 hvz5).mono ?_;rintro e ws ⟨hE6,rfl⟩;generalize y.sign=sgy at*;have bz0:=bb0.ext0 hE6;have bz1:=bb1.ext0 hE6;have bz2:=bb2.ext0 hE6;have hXs:=hXs5.ext hE6;have hEs:=hE.trans (hE5.trans hE6);have hzn:=mkx ZC.mono (mkx ZC.mono hu1 hE5) hE6;have hzd:=(mkx ZC.mono (mkx ZC.mono hv1 hE5) hE6).mag;clear j00 j01 j10 j11;generalize hsz:s1=sz at*;generalize haz:a1=az at*;generalize hnz:n1=nz at*;generalize hcz:c1=cz at*;generalize hxz:x=z at*;have bzn:=hlx;have hz0:Hid (z+0=z):=hid (by omega);go_upto_region 5 with(fail)
  have hEd:Ext ws ws.drew:=(ExtX.refl ws).drew;have hXd:HX (a0i X b 3) ws.drew:=hXs;have hxzd:ZC (mk (a0i X b 3) ws.drew) (.agg #[.bool sz, .slice az nz cz]) z:=hzn;have hydd:NC (mk (a0i X b 3) ws.drew) (.slice a2 n2 c2) y.natAbs:=hzd;have hxv:=hxzd.zv bzn.out;have h00:=ZC.zv (ZC.zero (mk (a0i X b 3) ws.drew)) (by decide);have hB:=hid (And.intro bz0 bz1);have hS:Hid (∀W',Ext ws.drew W'->W'.cell? ⟨b,0,none⟩=some (.bool sz)/\W'.cell? ⟨b,1,none⟩=some (.slice az nz cz)/\W'.cell? ⟨b+1,0,none⟩=some (.bool s2)/\W'.cell? ⟨b+1,1,none⟩=some (.slice a2 n2 c2)):=
   hid fun W' h=>⟨(bz0.ext0 (hEd.trans h)).cell 0 rfl,(bz0.ext0 (hEd.trans h)).cell 1 rfl,(bz1.ext0 (hEd.trans h)).cell 0 rfl,(bz1.ext0 (hEd.trans h)).cell 1 rfl⟩
  have k00:=bz0.cell 0 rfl;have k01:=bz0.cell 1 rfl;have k10:=bz1.cell 0 rfl;have k11:=bz1.cell 1 rfl;go_region_held3 (fun w'=>w'.cell? ⟨b,0,none⟩=some (.bool sz)/\w'.cell? ⟨b,1,none⟩=some (.slice az nz cz)/\w'.cell? ⟨b+1,0,none⟩=some (.bool s2)/\w'.cell? ⟨b+1,1,none⟩=some (.slice a2 n2 c2))
   (first|exact hS.out _ t1|exact hS.out _ t2|exact⟨((hB.out.1.ext0 (hEd.trans t2)).ext (bb2.set3 _ _ _).2 (a0e (by omega))).cell 0 rfl,((hB.out.1.ext0 (hEd.trans t2)).ext (bb2.set3 _ _ _).2 (a0e (by omega))).cell 1 rfl,((hB.out.2.ext0 (hEd.trans t2)).ext (bb2.set3 _ _ _).2 (a0e (by omega))).cell 0 rfl,((hB.out.2.ext0 (hEd.trans t2)).ext (bb2.set3 _ _ _).2 (a0e (by omega))).cell 1 rfl⟩|go_keep)
   (first|(go_at_call 210;(with_reducible refine(b4P (a0i X b 3) ws.drew _ _ _ _ hXd hxv h00).mono ?_);rintro ee w8 ⟨t1,u8,rfl,hu8⟩;rw[hz0.out]at hu8;have hX8:=HX.ext hXd t1;have hm8:=mkx NC.mono hydd t1)|(go_at_call 211;(with_reducible refine(a4q (a0i X b 3) w8 _ _ z y.natAbs hX8 hu8 hm8 bzn.out hly.out hy0.out).mono ?_);rintro ee w9 ⟨hE9,u9,rfl,hu9⟩;obtain⟨s9,a9,n9,c9,d9,k9,e9,rfl⟩:=hu9.shape;have t2:=t1.trans hE9;have bb2:=bz2.ext0 (hEd.trans t2);have g0:=bb2.cell 0 rfl;have g1:=bb2.cell 1 rfl;have g2:=bb2.cell 2 rfl;have f0:=bb2.frozen 0;have f1:=bb2.frozen 1;have f2:=bb2.frozen 2))
  rw[hres.out]at hu9;obtain⟨q1,q2⟩:=bb2.set3 (.bool s9) (.slice a9 n9 c9) (.slice d9 k9 e9);have h7:=QC.mono _ _ _ _ a0m (QC.mono _ _ _ _ (a0h q2 (by omega) (by omega)) hu9);have hEf:Ext w _:=ExtX.box (hEs.trans (hEd.trans t2)) q2 (by omega);clear g0 g1 g2 f0 f1 f2 k00 k01 k10 k11 hS hB;go_wp2_with fail
  exact bodyPost_ret (a0P rfl rfl a0w q1 rfl) rfl ⟨hEf,_,by rw[hec.out];rfl,h7⟩
 ·have hec:Hid (ec=(0:Int)):=hid (by rw[<-hec',decide_eq_false (by omega)];rfl)
  have hres:Hid (mkRat (-x) y.natAbs=q):=hid (by rw[<-hq'];exact b5c x y h0);have hI:(y.sign==0)=false:=by rw[Int.sign_eq_neg_one_of_neg h0];rfl
  have hI2:decide (y.sign<0)=true:=by rw[Int.sign_eq_neg_one_of_neg h0];rfl
  have hy0:Hid (0<y.natAbs):=hid (by omega);have hvz5:=mkx ZV.mono hvz hE5;have hXs5:=hXW.ext hE5;clear h0 hec' hq';go_wp2_with fail
  refine(b1o (a0i X b 3) w5 _ _ hXs5 hvz5).mono ?_;rintro e w6 ⟨hE6,rfl⟩;generalize y.sign=sgy at*;have bz0:=bb0.ext0 hE6;have bz1:=bb1.ext0 hE6;have bz2:=bb2.ext0 hE6;have hXs6:=hXs5.ext hE6;have hzn6:=mkx ZV.mono (mkx ZV.mono huz hE5) hE6;clear j00 j01 j10 j11;have k00:=bz0.cell 0 rfl;have k01:=bz0.cell 1 rfl;have k10:=bz1.cell 0 rfl;have k11:=bz1.cell 1 rfl;go_wp2_with fail
  refine(b6s (a0i X b 3) w6 _ _ hXs6 hzn6).mono ?_;rintro e w7 ⟨hE7,u7,rfl,hu7⟩;obtain⟨sz,az,nz,cz,rfl⟩:=hu7.shape;have bn0:=bz0.ext0 hE7;have bn1:=bz1.ext0 hE7;have bn2:=bz2.ext0 hE7;have hXs7:=hXs6.ext hE7;have hEs7:=hE.trans (hE5.trans (hE6.trans hE7));have hzd7:=(mkx ZC.mono (mkx ZC.mono (mkx ZC.mono hv1 hE5) hE6) hE7).mag;have hbz:Hid (lg (-x).natAbs<=549755813888):=hid (by rw[Int.natAbs_neg];exact hlx.out);clear k00 k01 k10 k11 bz0 bz1 bz2;generalize hxz: -x=z at*;go_upto_region 5 with((with_reducible show wpList _ _ _ (⟨_, .store _ _ _,_,_,_,_⟩::_) _ _);refine a0c a0C rfl rfl bn0 rfl rfl (a2F _ _ _ _) ?_;intro ws bz0 r2)
  have bz1:=bn1.ext r2 (a0e (by omega));have bz2:=bn2.ext r2 (a0e (by omega));have hXs:=hXs7.ext r2;have hzn:=ZC.mono _ _ _ _ (a0h (X:=X) (lo:=b) (nb:=3) r2 (by omega) (by omega)) hu7;have hzd:=NC.mono _ _ _ _ (a0h (X:=X) (lo:=b) (nb:=3) r2 (by omega) (by omega)) hzd7;have hEs:Ext w ws:=ExtX.box hEs7 r2 (by omega);have bzn:=hbz;have hz0:Hid (z+0=z):=hid (by omega);have hEd:Ext ws ws.drew:=(ExtX.refl ws).drew;have hXd:HX (a0i X b 3) ws.drew:=hXs;have hxzd:ZC (mk (a0i X b 3) ws.drew) (.agg #[.bool sz, .slice az nz cz]) z:=hzn;have hydd:NC (mk (a0i X b 3) ws.drew) (.slice a2 n2 c2) y.natAbs:=hzd;have hxv:=hxzd.zv bzn.out;have h00:=ZC.zv (ZC.zero (mk (a0i X b 3) ws.drew)) (by decide);have hB:=hid (And.intro bz0 bz1);have hS:Hid (∀W',Ext ws.drew W'->W'.cell? ⟨b,0,none⟩=some (.bool sz)/\W'.cell? ⟨b,1,none⟩=some (.slice az nz cz)/\W'.cell? ⟨b+1,0,none⟩=some (.bool s2)/\W'.cell? ⟨b+1,1,none⟩=some (.slice a2 n2 c2)):=
   hid fun W' h=>⟨(bz0.ext0 (hEd.trans h)).cell 0 rfl,(bz0.ext0 (hEd.trans h)).cell 1 rfl,(bz1.ext0 (hEd.trans h)).cell 0 rfl,(bz1.ext0 (hEd.trans h)).cell 1 rfl⟩
  have k00:=bz0.cell 0 rfl;have k01:=bz0.cell 1 rfl;have k10:=bz1.cell 0 rfl;have k11:=bz1.cell 1 rfl;go_region_held3 (fun w'=>w'.cell? ⟨b,0,none⟩=some (.bool sz)/\w'.cell? ⟨b,1,none⟩=some (.slice az nz cz)/\w'.cell? ⟨b+1,0,none⟩=some (.bool s2)/\w'.cell? ⟨b+1,1,none⟩=some (.slice a2 n2 c2))
   (first|exact hS.out _ t1|exact hS.out _ t2|exact⟨((hB.out.1.ext0 (hEd.trans t2)).ext (bb2.set3 _ _ _).2 (a0e (by omega))).cell 0 rfl,((hB.out.1.ext0 (hEd.trans t2)).ext (bb2.set3 _ _ _).2 (a0e (by omega))).cell 1 rfl,((hB.out.2.ext0 (hEd.trans t2)).ext (bb2.set3 _ _ _).2 (a0e (by omega))).cell 0 rfl,((hB.out.2.ext0 (hEd.trans t2)).ext (bb2.set3 _ _ _).2 (a0e (by omega))).cell 1 rfl⟩|go_keep)
   (first|(go_at_call 210;(with_reducible refine(b4P (a0i X b 3) ws.drew _ _ _ _ hXd hxv h00).mono ?_);rintro ee w8 ⟨t1,u8,rfl,hu8⟩;rw[hz0.out]at hu8;have hX8:=HX.ext hXd t1;have hm8:=mkx NC.mono hydd t1)|(go_at_call 211;(with_reducible refine(a4q (a0i X b 3) w8 _ _ z y.natAbs hX8 hu8 hm8 bzn.out hly.out hy0.out).mono ?_);rintro ee w9 ⟨hE9,u9,rfl,hu9⟩;obtain⟨s9,a9,n9,c9,d9,k9,e9,rfl⟩:=hu9.shape;have t2:=t1.trans hE9;have bb2:=bz2.ext0 (hEd.trans t2);have g0:=bb2.cell 0 rfl;have g1:=bb2.cell 1 rfl;have g2:=bb2.cell 2 rfl;have f0:=bb2.frozen 0;have f1:=bb2.frozen 1;have f2:=bb2.frozen 2))
  rw[hres.out]at hu9;obtain⟨q1,q2⟩:=bb2.set3 (.bool s9) (.slice a9 n9 c9) (.slice d9 k9 e9);have h7:=QC.mono _ _ _ _ a0m (QC.mono _ _ _ _ (a0h q2 (by omega) (by omega)) hu9);have hEf:Ext w _:=ExtX.box (hEs.trans (hEd.trans t2)) q2 (by omega);clear g0 g1 g2 f0 f1 f2 k00 k01 k10 k11 hS hB;go_wp2_with fail
  exact bodyPost_ret (a0P rfl rfl a0w q1 rfl) rfl ⟨hEf,_,by rw[hec.out];rfl,h7⟩
theorem b5d (x y:Rat):((x.num*(y.den:Int):Int):Rat)/((y.num*(x.den:Int):Int):Rat)=x/y:=by
 have hx:(x.num:Rat)/(x.den:Rat)=x:=by rw[<-Rat.mkRat_eq_div];exact Rat.mkRat_self x
 have hy:(y.num:Rat)/(y.den:Rat)=y:=by rw[<-Rat.mkRat_eq_div];exact Rat.mkRat_self y
 rw[Rat.intCast_mul,Rat.intCast_mul,Rat.intCast_natCast,Rat.intCast_natCast];have h1:(x.den:Rat)≠0:=by have:=x.den_nz;exact_mod_cast this
 have h2:(y.den:Rat)≠0:=by have:=y.den_nz;exact_mod_cast this
 by_cases h3:(y.num:Rat)=0
 ·rw[<-hy,h3];simp[Rat.div_def]
 ·conv=>rhs;rw[<-hx,<-hy]
  grind
theorem b1L (y x:Rat):y.num*(x.den:Int)=0↔y=0:=by
 have h1:(x.den:Int)≠0:=by have:=x.den_nz;omega
 rw[Int.mul_eq_zero,Rat.num_eq_zero];exact or_iff_left h1
set_option maxRecDepth 100000 in
set_option maxHeartbeats 1600000 in
theorem b5W (X:Nat->Bool) (w:World) (u v:Value) (x y:Rat) (hX:HX X w) (hu:QV (mk X w) u x) (hv:QV (mk X w) v y):Calls Tryz.prog 209 #[u,v] w (b5b X w (x/y) (e5 (decide (y=0)))):=by
 have hlx:=hid hu.hq;have hly:=hid hv.hq;obtain⟨s1,a1,n1,c1,d1,k1,e1,rfl⟩:=hu.shape;obtain⟨s2,a2,n2,c2,d2,k2,e2,rfl⟩:=hv.shape;obtain⟨W,hW,hE,b0,b1,b2,hz⟩:=a3m w #[.bool s1, .slice a1 n1 c1, .slice d1 k1 e1] #[.bool s2, .slice a2 n2 c2, .slice d2 k2 e2] #[.bool false, .slice none 0 0, .slice none 0 0] 32 32 32;have hXW:HX (a0i X w.heap.size 3) W:=hX.boxes hz;have hu1:=QV.mono _ _ _ _ (a0s (nb:=3) hE) hu;have hv1:=QV.mono _ _ _ _ (a0s (nb:=3) hE) hv;obtain⟨b,hb⟩:∃b,w.heap.size=b:=⟨_,rfl⟩;have hbw:w.heap.size<=b:=by omega
 rw[hb]at b0 b1 b2 hz hXW hu1 hv1;have hEd:Ext W W.drew:=(ExtX.refl W).drew;have hXd:HX (a0i X b 3) W.drew:=hXW;have hud:QV (mk (a0i X b 3) W.drew) (.agg #[.bool s1, .slice a1 n1 c1, .slice d1 k1 e1]) x:=hu1;have hvd:QV (mk (a0i X b 3) W.drew) (.agg #[.bool s2, .slice a2 n2 c2, .slice d2 k2 e2]) y:=hv1;have k00:=b0.cell 0 rfl;have k01:=b0.cell 1 rfl;have k02:=b0.cell 2 rfl;have k10:=b1.cell 0 rfl;have k11:=b1.cell 1 rfl;have k12:=b1.cell 2 rfl;clear hu hv;obtain⟨ec,hec'⟩:∃ec:Int,e5 (decide (y=0))=ec:=⟨_,rfl⟩;rw[hec']
 replace hec':=hid hec'
 go_enter Tryz.func209,Tryz.ntmps209
 go_upto_region 1 with(fail)
 go_cut []from 6 to 9 (fun wx=>∃s3 a3 n3 c3 d3 k3 e3 s4 a4 n4 c4 d4 k4 e4,Bx wx b #[.bool s3, .slice a3 n3 c3, .slice d3 k3 e3] 32/\Bx wx (b+1) #[.bool s4, .slice a4 n4 c4, .slice d4 k4 e4] 32/\Bx wx (b+1+1) #[.bool false, .slice none 0 0, .slice none 0 0] 32/\QC (mk (a0i X b 3) wx) (.agg #[.bool s3, .slice a3 n3 c3, .slice d3 k3 e3]) x/\QC (mk (a0i X b 3) wx) (.agg #[.bool s4, .slice a4 n4 c4, .slice d4 k4 e4]) y/\Ext w wx)
 case first=>
  go_region_with (first|(go_at_call 170;(with_reducible refine(a4I (a0i X b 3) W.drew _ x hXd hud).mono ?_);rintro ee w5 ⟨hE5,u5,rfl,hq5⟩;obtain⟨s5,a5,n5,c5,d5,k5,e5,rfl⟩:=hq5.shape;have bb0:=b0.ext0 (hEd.trans hE5);have bb1:=b1.ext0 (hEd.trans hE5);have e00:=bb0.cell 0 rfl;have e01:=bb0.cell 1 rfl;have e02:=bb0.cell 2 rfl;have e10:=bb1.cell 0 rfl;have e11:=bb1.cell 1 rfl;have e12:=bb1.cell 2 rfl)|(go_at_call 170;(with_reducible refine(a4I (a0i X b 3) w5 _ y (HX.ext hXd hE5) (mkx QV.mono hvd hE5)).mono ?_);rintro ee w6 ⟨hE6,u6,rfl,hq6⟩;obtain⟨s6,a6,n6,c6,d6,k6,e6,rfl⟩:=hq6.shape;have bb2:=bb0.ext0 hE6;have bb3:=bb1.ext0 hE6;have g00:=bb2.cell 0 rfl;have g01:=bb2.cell 1 rfl;have g02:=bb2.cell 2 rfl;have g10:=bb3.cell 0 rfl;have g11:=bb3.cell 1 rfl;have g12:=bb3.cell 2 rfl;have fr0:=bb2.frozen 0;have fr1:=bb2.frozen 1;have fr4:=bb2.frozen 2;have fr2:=bb3.frozen 0;have fr3:=bb3.frozen 1;have fr5:=bb3.frozen 2))
  all_goals
   obtain⟨wf,hwf,q0,q1,q2,q3,q4⟩:=a3N (X:=X) (nb:=3) bb2 bb3 (hE.trans ((hEd.trans hE5).trans hE6)) hbw (by omega) (.bool s5) (.slice a5 n5 c5) (.slice d5 k5 e5) (.bool s6) (.slice a6 n6 c6) (.slice d6 k6 e6);rw[hwf];have hfx:QC (mk (a0i X b 3) wf) (.agg #[.bool s5, .slice a5 n5 c5, .slice d5 k5 e5]) x:=QC.mono _ _ _ _ q4 (mkx QC.mono hq5 hE6);have hfy:QC (mk (a0i X b 3) wf) (.agg #[.bool s6, .slice a6 n6 c6, .slice d6 k6 e6]) y:=QC.mono _ _ _ _ q4 hq6;have q5:=q2 (b+1+1) _ _ (by omega) (by omega) ((b2.ext0 (hEd.trans hE5)).ext0 hE6);clear e00 e01 e02 e10 e11 e12 g00 g01 g02 g10 g11 g12 fr0 fr1 fr2 fr3 fr4 fr5 k00 k01 k02 k10 k11 k12 hwf;go_wp2_with fail
   go_meet
   exact⟨_,_,_,_,_,_,_,_,_,_,_,_,_,_,q0,q1,q5,hfx,hfy,q3⟩
 case rest=>
  clear k00 k01 k02 k10 k11 k12 b0 b1 b2 hu1 hv1 hud hvd hXd hEd hW;obtain⟨s3,a3,n3,c3,d3,k3,e3,s4,a4,n4,c4,d4,k4,e4,b0,b1,b2,hx,hy,hE1⟩:=hcut;have hzz:w.heap.size+3<=wc.heap.size:=by have:=b2.lt;omega
  obtain⟨hxz,hxm,hxdn⟩:=hx.num;obtain⟨hyz,hym,hydn⟩:=hy.num;have hXc:HX (a0i X b 3) wc:=hX.boxes' hE1 (by have:=hzz;omega) hzz;have k00:=b0.cell 0 rfl;have k01:=b0.cell 1 rfl;have k02:=b0.cell 2 rfl;have k10:=b1.cell 0 rfl;have k11:=b1.cell 1 rfl;have k12:=b1.cell 2 rfl;have hEd:Ext wc wc.drew:=(ExtX.refl wc).drew;have hXd:HX (a0i X b 3) wc.drew:=hXc;have hxd:QC (mk (a0i X b 3) wc.drew) (.agg #[.bool s3, .slice a3 n3 c3, .slice d3 k3 e3]) x:=hx;have hyd:QC (mk (a0i X b 3) wc.drew) (.agg #[.bool s4, .slice a4 n4 c4, .slice d4 k4 e4]) y:=hy;have hxzd:ZC (mk (a0i X b 3) wc.drew) (.agg #[.bool s3, .slice a3 n3 c3]) x.num:=hxz;have hyzd:ZC (mk (a0i X b 3) wc.drew) (.agg #[.bool s4, .slice a4 n4 c4]) y.num:=hyz;have bxn:lg x.num.natAbs<=549755813888:=Nat.le_trans (Nat.le_trans (a1k x) hlx.out) (by omega);have byn:lg y.num.natAbs<=549755813888:=Nat.le_trans (Nat.le_trans (a1k y) hly.out) (by omega);have bxd:lg x.den<=549755813888:=Nat.le_trans (Nat.le_trans (a1l x) hlx.out) (by omega);have byd:lg y.den<=549755813888:=Nat.le_trans (Nat.le_trans (a1l y) hly.out) (by omega);have bp1:lg (x.num*(y.den:Int)).natAbs<=274877906944:=by rw[Int.natAbs_mul,Int.natAbs_natCast];have:=a1R x.num.natAbs y.den;have:=a1k x;have:=a1l y;have:=hlx.out;have:=hly.out;omega
  have bp2:lg (y.num*(x.den:Int)).natAbs<=274877906944:=by rw[Int.natAbs_mul,Int.natAbs_natCast];have:=a1R y.num.natAbs x.den;have:=a1k y;have:=a1l x;have:=hlx.out;have:=hly.out;omega
  have bdd:lg (x.den*y.den)<=274877906944:=by have:=a1R x.den y.den;have:=a1l x;have:=a1l y;have:=hlx.out;have:=hly.out;omega
  have bnn:lg (x.num*y.num).natAbs<=274877906944:=by rw[Int.natAbs_mul];have:=a1R x.num.natAbs y.num.natAbs;have:=a1k x;have:=a1k y;have:=hlx.out;have:=hly.out;omega
  have bd0:0<x.den*y.den:=Nat.mul_pos x.den_pos y.den_pos;have hB:=hid (And.intro b0 b1);have hS:Hid (∀W',Ext wc.drew W'->W'.cell? ⟨b,0,none⟩=some (.bool s3)/\W'.cell? ⟨b,1,none⟩=some (.slice a3 n3 c3)/\W'.cell? ⟨b,2,none⟩=some (.slice d3 k3 e3)/\W'.cell? ⟨b+1,0,none⟩=some (.bool s4)/\W'.cell? ⟨b+1,1,none⟩=some (.slice a4 n4 c4)/\W'.cell? ⟨b+1,2,none⟩=some (.slice d4 k4 e4)):=
   hid fun W' h=>⟨(b0.ext0 (hEd.trans h)).cell 0 rfl,(b0.ext0 (hEd.trans h)).cell 1 rfl,(b0.ext0 (hEd.trans h)).cell 2 rfl,(b1.ext0 (hEd.trans h)).cell 0 rfl,(b1.ext0 (hEd.trans h)).cell 1 rfl,(b1.ext0 (hEd.trans h)).cell 2 rfl⟩
  have hfin:Hid (((x.num*(y.den:Int):Int):Rat)/((y.num*(x.den:Int):Int):Rat)=x/y):=hid (b5d x y);have hfe:Hid (e5 (decide (y.num*(x.den:Int)=0))=ec):=hid (by rw[<-hec'.out];simp only[b1L]);go_wp2_with fail
  go_region_held3 (fun w'=>w'.cell? ⟨b,0,none⟩=some (.bool s3)/\w'.cell? ⟨b,1,none⟩=some (.slice a3 n3 c3)/\w'.cell? ⟨b,2,none⟩=some (.slice d3 k3 e3)/\w'.cell? ⟨b+1,0,none⟩=some (.bool s4)/\w'.cell? ⟨b+1,1,none⟩=some (.slice a4 n4 c4)/\w'.cell? ⟨b+1,2,none⟩=some (.slice d4 k4 e4))
   (first|exact hS.out _ t1|exact hS.out _ t2|exact hS.out _ t3|exact hS.out _ t4|exact hS.out _ t5|exact⟨((hB.out.1.ext0 (hEd.trans t5)).ext (bb2.set3 _ _ _).2 (a0e (by omega))).cell 0 rfl,((hB.out.1.ext0 (hEd.trans t5)).ext (bb2.set3 _ _ _).2 (a0e (by omega))).cell 1 rfl,((hB.out.1.ext0 (hEd.trans t5)).ext (bb2.set3 _ _ _).2 (a0e (by omega))).cell 2 rfl,((hB.out.2.ext0 (hEd.trans t5)).ext (bb2.set3 _ _ _).2 (a0e (by omega))).cell 0 rfl,((hB.out.2.ext0 (hEd.trans t5)).ext (bb2.set3 _ _ _).2 (a0e (by omega))).cell 1 rfl,((hB.out.2.ext0 (hEd.trans t5)).ext (bb2.set3 _ _ _).2 (a0e (by omega))).cell 2 rfl⟩|go_keep)
   (first|(go_at_call 173;(with_reducible refine(a8e (a0i X b 3) wc.drew _ y hXd hyd).mono ?_);rintro ee w5 ⟨t1,u5,rfl,hu5⟩;have hX5:=HX.ext hXd t1;have hx5:=mkx ZC.mono hxzd t1)|(go_at_call 172;(with_reducible refine(a5G (a0i X b 3) w5 _ _ x.num y.den hX5 hx5 hu5 bxn byd).mono ?_);rintro ee w6 ⟨hE6,u6,rfl,hu6⟩;have t2:=t1.trans hE6;have hX6:=HX.ext hXd t2;have hx6:=mkx QC.mono hxd t2)|(go_at_call 173;(with_reducible refine(a8e (a0i X b 3) w6 _ x hX6 hx6).mono ?_);rintro ee w7 ⟨hE7,u7,rfl,hu7⟩;have t3:=t2.trans hE7;have hX7:=HX.ext hXd t3;have hy7:=mkx ZC.mono hyzd t3)|(go_at_call 172;(with_reducible refine(a5G (a0i X b 3) w7 _ _ y.num x.den hX7 hy7 hu7 byn bxd).mono ?_);rintro ee w8 ⟨hE8,u8,rfl,hu8⟩;have t4:=t3.trans hE8;have hX8:=HX.ext hXd t4;have hz6:=mkx ZC.mono hu6 (hE7.trans hE8))|(go_at_call 248;(with_reducible refine(b5V (a0i X b 3) w8 _ _ _ _ hX8 hz6 hu8 (Nat.le_trans bp1 (by decide)) (Nat.le_trans bp2 (by decide))).mono ?_);rintro ee w13 ⟨hE13,u13,rfl,hu13⟩;obtain⟨s13,a13,n13,c13,d13,k13,e13,rfl⟩:=hu13.shape;have t5:=t4.trans hE13;have bb2:=b2.ext0 (hEd.trans t5);have g0:=bb2.cell 0 rfl;have g1:=bb2.cell 1 rfl;have g2:=bb2.cell 2 rfl;have f0:=bb2.frozen 0;have f1:=bb2.frozen 1;have f2:=bb2.frozen 2))
  obtain⟨r1,r2⟩:=bb2.set3 (.bool s13) (.slice a13 n13 c13) (.slice d13 k13 e13);have h7:=QC.mono _ _ _ _ a0m (QC.mono _ _ _ _ (a0h r2 (by omega) (by omega)) hu13);rw[hfin.out]at h7;have hEf:Ext w _:=ExtX.box (hE1.trans (hEd.trans t5)) r2 (by omega);clear g0 g1 g2 f0 f1 f2 k00 k01 k02 k10 k11 k12 hS hB;go_wp2_with fail
  exact bodyPost_ret (a0P rfl rfl a0w r1 rfl) rfl ⟨hEf,_,by rw[<-hfe.out];rfl,h7⟩
theorem b5e (X:Nat->Bool) (w:World) (u:Value) (n:Nat) (hu:NC (mk X w) u n) (hn:lg n<=1099511627776):Calls Tryz.prog 191 #[u] w fun e w'=>w=w'/\e= .returned (.bool (decide (n=1))):=by
 obtain⟨ao,ca,a,rfl,hca,hcan,hsa⟩:=hu;have hal:=hcan.len;by_cases h1:a.length=1
 ·have hk:0<a.length:=by omega
  have hcell:=hsa.nat 0 hk;have hh:=hsa.hd;obtain⟨x,rfl⟩:∃x,a= [x]:=by
   match a,h1 with
   | [x],_=>exact⟨x,rfl⟩
  have hnx:n=x:=by have:=hcan.2.2;simp[nv]at this;omega
  obtain rfl:=hnx;simp only[List.length_singleton,List.getElem_cons_zero]at hcell hca hh hk |-;by_cases h2:n=1
  ·have hI:((n:Int)==1)=true:=by rw[h2];rfl
   have hf:Hid (decide (n=1)=true):=hid (decide_eq_true h2);clear h2 h1 hcan hsa hal;go_enter Tryz.func191,Tryz.ntmps191
   go_wp2_with (with_reducible refine a0t a0G (by omega) (by assumption) ?_)
   go_ret
   exact⟨rfl,a0l hf.out.symm⟩
  ·have hI:((n:Int)==1)=false:=a3E (by omega)
   have hf:Hid (decide (n=1)=false):=hid (decide_eq_false h2);clear h2 h1 hcan hsa hal;go_enter Tryz.func191,Tryz.ntmps191
   go_wp2_with (with_reducible refine a0t a0G (by omega) (by assumption) ?_)
   go_ret
   exact⟨rfl,a0l hf.out.symm⟩
 ·have hI:((a.length:Int)==1)=false:=a3E (by omega)
  have hf:Hid (decide (n=1)=false):=hid (decide_eq_false (by rintro rfl;rw[a3k]at hal;exact h1 hal));have hal2:a.length<=1099511627776:=by omega
  clear h1 hal hn;go_enter Tryz.func191,Tryz.ntmps191
  go_wp2_with (with_reducible refine a0t a0G (by omega) (by assumption) ?_)
  go_ret
  exact⟨rfl,a0l hf.out.symm⟩
theorem _root_.Go.Rep.NC.zc {h:Mem} {ao:Option Addr} {n c k:Nat} (hu:NC h (.slice ao n c) k):ZC h (.agg #[.bool false, .slice ao n c]) (k:Int):=by
 obtain⟨_,_,l,heq,b1,b2,b3⟩:=hu;simp only[Value.slice.injEq]at heq;obtain⟨rfl,rfl,rfl⟩:=heq;exact⟨_,_,_,l,rfl,b1,⟨(decide_eq_false (by omega)).symm,by rw[Int.natAbs_natCast];exact b2⟩,b3⟩
theorem a1C {α:Type} (l:List α) (i:Nat) (h:i<l.length):l.take i++[l[i]]=l.take (i+1):=by
 rw[List.take_add_one,List.getElem?_eq_getElem h];rfl
theorem a2b {α:Type} {l:List α} {i:Nat} (h:i<=l.length):(l.take i).length=i:=by simp;omega
end Go.Proofs.YtkddecjkfdogiaaGreat
namespace Go.Lin
open Go.Lim
def a9c (v:Int):Rat:=((v%61 - 30:Int):Rat)/((1+(v.tdiv 61)%4:Int):Rat)
def atL (l:List Int) (i:Nat):Int:=l.getD i 0
def a7o (r c:Nat) (raw:List Int):List (List Rat):=(List.range r).map fun i=>(List.range c).map fun j=>a9c (atL raw (i*c+j))
theorem a4Q {n:Nat} (h:n<100):lg n<=1:=by
 by_cases h0:n=0
 ·subst h0;simp[a4V]
 ·rw[a2E (by omega) (by omega)];exact Nat.le_refl _
theorem a7C (v:Int):hq (a9c v)<=2:=by
 refine Nat.le_trans (hq_div _ _) ?_;have h1:=b2t (v%61 - 30) 1 (a4Q (by omega)) (by omega);have h2:=b2t (1+(v.tdiv 61)%4) 1 (a4Q (by omega)) (by omega);omega
end Go.Lin
namespace Go.Proofs.YtkddecjkfdogiaaGreat
open Go.RowKit Go.Rep Go.Lim Go.Lin
theorem b3F {k n:Int} (h3:0<n) (h:¬k.tmod n<0):k.tmod n=k%n:=by
 have h1:=Int.emod_add_mul_ediv k n;have he:=Int.emod_nonneg k (show n≠0 by omega);have he2:=Int.emod_lt_of_pos k h3;rw[Int.tmod_eq_emod]at h |-;split
 ·simp
 ·rename_i h0
  rw[if_neg h0]at h;omega
theorem b3G {k n:Int} (h3:0<n) (h:k.tmod n<0):k.tmod n+n=k%n:=by
 have he:=Int.emod_nonneg k (show n≠0 by omega);rw[Int.tmod_eq_emod]at h |-;split
 ·rename_i h0;rw[if_pos h0]at h;omega
 ·omega
theorem a6i (w:World) (k n:Int) (h3:0<n) (h4:n<=1000000):Calls Tryz.prog 108 #[.int .i64 k, .int .i64 n] w (fun e w'=>w'=w/\e= .returned (.int .i64 (k%n))):=by
 have hn0:(n==0)=false:=a3E (by omega);have he:=Int.emod_nonneg k (show n≠0 by omega);have he2:=Int.emod_lt_of_pos k h3;by_cases h:k.tmod n<0
 ·have hr:=hid (b3G h3 h)
  have hw:wrap64 (k.tmod n+n)=k.tmod n+n:=IntWalk.wrap64_in _ (by rw[hr.out];omega);clear he he2;go_enter Tryz.func108,Tryz.ntmps108
  go_wp2_with fail
  go_ret
  exact⟨rfl,a0I (by first|(rw[hw];exact hr.out)|exact hr.out)⟩
 ·have hr:=hid (b3F h3 h)
  clear he he2;go_enter Tryz.func108,Tryz.ntmps108
  go_wp2_with fail
  go_ret
  exact⟨rfl,a0I hr.out⟩
theorem b2K (X:Nat->Bool) (w:World) (ao:Option Addr) (l:List Int) (cap i:Nat) (hs:Sl (a1P .i64) 1 (mk X w) ao l) (hi:i<=1000000):Calls Tryz.prog 126 #[.slice ao l.length cap, .int .i64 (i:Int)] w (fun e w'=>w'=w/\e= .returned (.int .i64 (atL l i))):=by
 have hh:=hs.hd;by_cases h:i<l.length
 ·have c1:=hs.int i h
  have hv:Hid (l[i]=atL l i):=hid (by simp[atL,List.getD_eq_getElem?_getD,h]);have hI:(i:Int)<(l.length:Int):=by omega
  go_enter Tryz.func126,Tryz.ntmps126
  go_wp2_with (with_reducible refine a0t a6A (by omega) (by assumption) ?_)
  go_ret
  exact⟨rfl,a0I hv.out⟩
 ·have hv:Hid ((0:Int)=atL l i):=hid (by simp[atL,List.getD_eq_getElem?_getD,h])
  have hI:¬(i:Int)<(l.length:Int):=by omega
  go_enter Tryz.func126,Tryz.ntmps126
  go_wp2_with fail
  go_ret
  exact⟨rfl,a0I hv.out⟩
end Go.Proofs.YtkddecjkfdogiaaGreat
namespace Go.Lin
open Go.Lim
theorem a4R (r c:Nat) (raw:List Int):Shp r c (a7o r c raw):=⟨by simp[a7o],fun x hx=>by
 obtain⟨i,_,rfl⟩:=List.mem_map.1 hx;simp⟩
theorem b3H (r c:Nat) (raw:List Int):Go.Rep.BM 2 (a7o r c raw):=fun x hx q hq=>by
 obtain⟨i,_,rfl⟩:=List.mem_map.1 hx;obtain⟨j,_,rfl⟩:=List.mem_map.1 hq;exact a7C _
end Go.Lin
namespace Go.Proofs.YtkddecjkfdogiaaGreat
open Go.RowKit Go.Rep Go.Lim
theorem a8s (z k:Int) (hk:0<k):((z:Rat)/(k:Rat)).num=z/(Nat.gcd z.natAbs k.natAbs:Nat)/\(((z:Rat)/(k:Rat)).den:Int)=k/(Nat.gcd z.natAbs k.natAbs:Nat):=by
 have h:=b2J z k hk;have hk0:k.natAbs≠0:=by omega
 rw[<-h,Rat.num_mkRat,Rat.den_mkRat];rw[if_neg hk0,if_neg hk0,Nat.gcd_comm k.natAbs];refine⟨rfl,?_⟩;rw[Int.natCast_ediv]
 congr 1
 omega
set_option maxRecDepth 100000 in
set_option maxHeartbeats 1600000 in
theorem b5f (X:Nat->Bool) (w:World) (u v:Value) (x y:Int) (hX:HX X w) (hu:ZC (mk X w) u x) (hv:ZC (mk X w) v y) (hx:lg x.natAbs<=274877906944) (hy:lg y.natAbs<=274877906944) (hy0:y≠0):Calls Tryz.prog 122 #[u,v] w (a2w X w QC ((x:Rat)/(y:Rat))):=by
 have hlx:=hid hx;have hly:=hid hy;obtain⟨s1,a1,n1,c1,rfl⟩:=hu.shape;obtain⟨s2,a2,n2,c2,rfl⟩:=hv.shape;obtain⟨W,hW,hE,b0,b1,b2,hz⟩:=a3m w #[.bool s1, .slice a1 n1 c1] #[.bool s2, .slice a2 n2 c2] #[.bool false, .slice none 0 0, .slice none 0 0] 30 30 32;have hXW:HX (a0i X w.heap.size 3) W:=hX.boxes hz;have hu1:=ZC.mono _ _ _ _ (a0s (nb:=3) hE) hu;have hv1:=ZC.mono _ _ _ _ (a0s (nb:=3) hE) hv;obtain⟨b,hb⟩:∃b,w.heap.size=b:=⟨_,rfl⟩;have hbw:w.heap.size<=b:=by omega
 rw[hb]at b0 b1 b2 hz hXW hu1 hv1;have hvz:=hv1.zv (Nat.le_trans hy (by decide));have huz:=hu1.zv (Nat.le_trans hx (by decide));have k00:=b0.cell 0 rfl;have k01:=b0.cell 1 rfl;have k10:=b1.cell 0 rfl;have k11:=b1.cell 1 rfl;have h0:0<y\/y<0:=by omega
 obtain⟨q,hq'⟩:∃q:Rat,(x:Rat)/(y:Rat)=q:=⟨_,rfl⟩;rw[hq'];clear hu hv hx hy;go_enter Tryz.func122,Tryz.ntmps122
 go_wp2_with fail
 refine(b4R (a0i X b 3) W _ _ hXW hvz).mono ?_;rintro e w5 ⟨hE5,rfl⟩;have bb0:=b0.ext0 hE5;have bb1:=b1.ext0 hE5;have bb2:=b2.ext0 hE5;clear k00 k01 k10 k11;rcases h0 with h0|h0
 ·have hI2:decide (y.sign<0)=false:=by rw[Int.sign_eq_one_of_pos h0];rfl
  have hk:Hid (0<y):=hid h0;generalize y.sign=sgy at*;have hzn:=mkx ZC.mono hu1 hE5;have hzd:=mkx ZC.mono hv1 hE5;have hXs:=hXW.ext hE5;have hEs:=hE.trans hE5;clear h0 hy0;generalize hsz:s1=sz at*;generalize haz:a1=az at*;generalize hnz:n1=nz at*;generalize hcz:c1=cz at*;generalize hsk:s2=sk at*;generalize hak:a2=ak at*;generalize hnk:n2=nk at*;generalize hck:c2=ck at*;generalize hwz:w5=ws at*;generalize hxz:x=z at*;generalize hyk:y=k at*;have bz0:=bb0;have bz1:=bb1;have bz2:=bb2;have bzn:=hlx;have bzk:=hly;have hres:=hid hq';clear hq';have k00:=bz0.cell 0 rfl;have k01:=bz0.cell 1 rfl;have k10:=bz1.cell 0 rfl;have k11:=bz1.cell 1 rfl;have hgp:=hid (Nat.gcd_pos_of_pos_right z.natAbs (show 0<k.natAbs by have:=hk.out;omega));have hgz:=hid (show((Nat.gcd z.natAbs k.natAbs:Nat):Int)∣z from Int.ofNat_dvd_left.2 (Nat.gcd_dvd_left _ _));have hgk:=hid (show((Nat.gcd z.natAbs k.natAbs:Nat):Int)∣k from Int.ofNat_dvd_left.2 (Nat.gcd_dvd_right _ _));have hgl:=hid (show lg (Nat.gcd z.natAbs k.natAbs)<=274877906944 from Nat.le_trans (a1a (Nat.gcd_le_right _ (by have:=hk.out;omega))) bzk.out);have hlow:=hid (a8s z k hk.out);obtain⟨g,hg⟩:∃g,Nat.gcd z.natAbs k.natAbs=g:=⟨_,rfl⟩;rw[hg]at hgp hgz hgk hgl hlow
  replace hg:=hid hg
  go_wp2_with fail
  refine(b4S (a0i X b 3) ws _ _ _ _ hXs (hzn.zv (Nat.le_trans bzn.out (by decide))) (hzd.zv (Nat.le_trans bzk.out (by decide))) bzn.out bzk.out).mono ?_;rintro e6 w6 ⟨hE6,ug,rfl,hug⟩;rw[hg.out]at hug;obtain⟨ag,cg,lgd,rfl,g1,g2,g3⟩:=hug;have bg:=Bx.new w6 #[.bool false, .slice none 0 0] 30;have hXg:=hXs.ext hE6;clear k00 k01 k10 k11;go_wp2_with ((with_reducible show wpList _ _ _ (⟨_, .store _ _ _,_,_,_,_⟩::_) _ _);refine a0c a0C rfl rfl bg rfl rfl (a2F _ _ _ _) ?_;intro w7 r1 r2;have hE7:Ext w6 w7:=ExtX.box ((ExtX.refl w6).alloc _) r2 (Nat.le_refl _);have t7:=hE6.trans hE7;have k00:=(bz0.ext0 t7).cell 0 rfl;have k01:=(bz0.ext0 t7).cell 1 rfl;have k50:=r1.cell 0 rfl;have k51:=r1.cell 1 rfl)
  have hX7:=(hXg.ext hE7);have hug7:ZC (mk (a0i X b 3) w7) (.agg #[.bool false, .slice ag lgd.length cg]) (g:Int):=NC.zc (NC.mono _ _ _ _ (a0o hE7) ⟨ag,cg,lgd,rfl,g1,g2,g3⟩);have hz7:=mkx ZC.mono hzn t7;have hgl2:Hid (lg ((g:Int)).natAbs<=274877906944):=hid (by rw[Int.natAbs_natCast];exact hgl.out);have hgpI:Hid ((0:Int)<(g:Int)):=hid (by have:=hgp.out;omega);refine(b1p (a0i X b 3) w7 _ _ z g hX7 (hz7.zv (Nat.le_trans bzn.out (by decide))) (hug7.zv (Nat.le_trans hgl2.out (by decide))) bzn.out hgl2.out hgpI.out hgz.out).mono ?_;rintro e8 w8 ⟨hE8,up,sv,av,nv,cv,rfl,hup⟩;obtain⟨sp,ap,np,cp,rfl⟩:=hup.shape;obtain⟨W8,hW8,hEb8,bp,br,hz8⟩:=a1Y w8 #[.bool false, .slice none 0 0] #[.bool false, .slice none 0 0] 30 30;subst hW8;clear k00 k01 k50 k51;go_wp2_with ((with_reducible show wpList _ _ _ (⟨_, .store _ _ _,_,_,_,_⟩::_) _ _);first|(refine a0c a0C rfl rfl bp rfl rfl (a2F _ _ _ _) ?_;intro w9 p1 p2;have br':=br.ext p2 (a0e (by omega)))|(refine a0c a0C rfl rfl br' rfl rfl (a2F _ _ _ _) ?_;intro w10 p3 p4;have hE10:Ext w8 w10:=ExtX.box (ExtX.box hEb8 p2 (Nat.le_refl _)) p4 (by omega);have t10:=t7.trans (hE8.trans hE10);have k10:=(bz1.ext0 t10).cell 0 rfl;have k11:=(bz1.ext0 t10).cell 1 rfl;have r10:=r1.ext0 (hE8.trans hE10);have k50:=r10.cell 0 rfl;have k51:=r10.cell 1 rfl;have p10:=p1.ext p4 (a0e (by omega))))
  have hup10:=mkx ZC.mono hup hE10;have hX10:=(hX7.ext hE8).ext hE10;have hk10:=mkx ZC.mono hzd t10;have hug10:=mkx ZC.mono (mkx ZC.mono hug7 hE8) hE10;refine(b1p (a0i X b 3) w10 _ _ k g hX10 (hk10.zv (Nat.le_trans bzk.out (by decide))) (hug10.zv (Nat.le_trans hgl2.out (by decide))) bzk.out hgl2.out hgpI.out hgk.out).mono ?_;rintro e11 w11 ⟨hE11,uq,sv2,av2,nv2,cv2,rfl,huq⟩;obtain⟨sq,aq,nq,cq,rfl⟩:=huq.shape;obtain⟨W11,hW11,hEb11,bq,br2,hz11⟩:=a1Y w11 #[.bool false, .slice none 0 0] #[.bool false, .slice none 0 0] 30 30;subst hW11;clear k10 k11 k50 k51 br' br;go_wp2_with ((with_reducible show wpList _ _ _ (⟨_, .store _ _ _,_,_,_,_⟩::_) _ _);first|(refine a0c a0C rfl rfl bq rfl rfl (a2F _ _ _ _) ?_;intro w12 p5 p6;have br':=br2.ext p6 (a0e (by omega)))|(refine a0c a0C rfl rfl br' rfl rfl (a2F _ _ _ _) ?_;intro w13 p7 p8;have hE13:Ext w11 w13:=ExtX.box (ExtX.box hEb11 p6 (Nat.le_refl _)) p8 (by omega);have t13:=t10.trans (hE11.trans hE13);have q13:=p5.ext p8 (a0e (by omega));have k90:=q13.cell 0 rfl;have k91:=q13.cell 1 rfl;have f90:=q13.frozen 0;have f91:=q13.frozen 1;have p13:=p10.ext0 (hE11.trans hE13);have k60:=p13.cell 0 rfl;have k61:=p13.cell 1 rfl))
  have huq13:=mkx ZC.mono huq hE13;have hup13:=mkx ZC.mono (mkx ZC.mono hup10 hE11) hE13;have hmq:=huq13.mag;have hkq:Hid (lg (k/(g:Int)).natAbs<=1099511627776):=hid (by
   have h1:=hlow.out.2;have:(k/(g:Int)).natAbs<=k.natAbs:=by
    have:=Int.natAbs_ediv_le_natAbs k (g:Int);exact this
   exact Nat.le_trans (a1a this) (Nat.le_trans bzk.out (by decide)))
  have bz13:=bz2.ext0 t13;have hEs13:=hEs.trans t13;refine(b5e _ _ _ _ hmq hkq.out).mono ?_;rintro e14 w14 ⟨rfl,rfl⟩;have hkg:Hid ((q.den:Int)=k/(g:Int)):=hid (by rw[<-hres.out];exact hlow.out.2);have hzg:Hid (q.num=z/(g:Int)):=hid (by rw[<-hres.out];exact hlow.out.1);by_cases h1:(k/(g:Int)).natAbs=1
  ·have hd1:Hid (dn q=0):=hid ((a3M q).2 (by have:=hkg.out;have:=q.den_pos;omega))
   rw[decide_eq_true h1];clear h1;go_upto_region 8 with(fail)
   obtain⟨m1,m2⟩:=a0S q13 (.slice none 0 0) (i:=1) (by simp);obtain⟨w14,hw14⟩:∃w14,w13.setCell ⟨w11.heap.size,1,none⟩ (.slice none 0 0)=w14:=⟨_,rfl⟩;rw[hw14]at m1 m2 |-;have hE14:Ext w11 w14:=ExtX.box hE13 m2 (Nat.le_refl _);have t14:=t10.trans (hE11.trans hE14);have bz14:=bz2.ext0 t14;have p14:=p10.ext0 (hE11.trans hE14);clear k60 k61 k90 k91 f90 f91;have k60:w14.cell? ⟨w8.heap.size,0,none⟩=some (.bool sp):=p14.cell 0 rfl;have k61:w14.cell? ⟨w8.heap.size,1,none⟩=some (.slice ap np cp):=p14.cell 1 rfl;have k91:w14.cell? ⟨w11.heap.size,1,none⟩=some (.slice none 0 0):=m1.cell 1 rfl;have hup14:=mkx ZC.mono (mkx ZC.mono hup10 hE11) hE14;go_wp2_with ((with_reducible show wpList _ _ _ (⟨_, .store _ _ _,_,_,_,_⟩::_) _ _);refine a0c a0w rfl rfl bz14 rfl rfl (a3n _ _ _ _ _ _ _) ?_;intro w15 r3 r4)
   have hfz:ZC (mk (a0i X b 3) w14) (.agg #[.bool sp, .slice ap np cp]) q.num:=by rw[hzg.out];exact hup14
   have hfd:NC (mk (a0i X b 3) w14) (.slice none 0 0) (dn q):=by rw[hd1.out];exact NC.zero _
   have h7:=QC.mono _ _ _ _ a0m (QC.mono _ _ _ _ (a0h r4 (by omega) (by omega)) (QC.of hfz hfd));exact bodyPost_ret (a0f rfl rfl a0w r3 rfl) rfl ⟨ExtX.box (hEs.trans t14) r4 (by omega),_,rfl,h7⟩
  ·have hd1:Hid (dn q=(k/(g:Int)).natAbs):=hid (by
    have h2:=hkg.out;unfold dn;rw[if_neg (by omega)];omega)
   rw[decide_eq_false h1];clear h1;go_wp2_with ((with_reducible show wpList _ _ _ (⟨_, .store _ _ _,_,_,_,_⟩::_) _ _);refine a0c a0w rfl rfl bz13 rfl rfl (a3n _ _ _ _ _ _ _) ?_;intro w15 r3 r4)
   have hfz:ZC (mk (a0i X b 3) w13) (.agg #[.bool sp, .slice ap np cp]) q.num:=by rw[hzg.out];exact hup13
   have hfd:NC (mk (a0i X b 3) w13) (.slice aq nq cq) (dn q):=by rw[hd1.out];exact hmq
   have h7:=QC.mono _ _ _ _ a0m (QC.mono _ _ _ _ (a0h r4 (by omega) (by omega)) (QC.of hfz hfd));exact bodyPost_ret (a0f rfl rfl a0w r3 rfl) rfl ⟨ExtX.box hEs13 r4 (by omega),_,rfl,h7⟩
 ·have hI2:decide (y.sign<0)=true:=by rw[Int.sign_eq_neg_one_of_neg h0];rfl
  have hkn:Hid (0< -y):=hid (by omega);generalize y.sign=sgy at*;have hEd:Ext w5 w5.drew:=(ExtX.refl w5).drew;have hXd:HX (a0i X b 3) w5.drew:=HX.ext (HX.ext hXW hE5) hEd;have hud:ZV (mk (a0i X b 3) w5.drew) (.agg #[.bool s1, .slice a1 n1 c1]) x:=mkx ZV.mono huz (hE5.trans hEd);have hvd:ZV (mk (a0i X b 3) w5.drew) (.agg #[.bool s2, .slice a2 n2 c2]) y:=mkx ZV.mono hvz (hE5.trans hEd);have k00:=bb0.cell 0 rfl;have k01:=bb0.cell 1 rfl;have k10:=bb1.cell 0 rfl;have k11:=bb1.cell 1 rfl;have hres0:Hid (((-x:Int):Rat)/((-y:Int):Rat)=q):=hid (by
   rw[<-hq',Rat.intCast_neg,Rat.intCast_neg];have:(y:Rat)≠0:=by exact_mod_cast hy0
   grind)
  have bzn:Hid (lg (-x).natAbs<=274877906944):=hid (by rw[Int.natAbs_neg];exact hlx.out);have bzk:Hid (lg (-y).natAbs<=274877906944):=hid (by rw[Int.natAbs_neg];exact hly.out);clear h0 hy0 hq';go_upto_region 2 with(fail)
  go_region_with (first|(go_at_call 188;(with_reducible refine(b4Q (a0i X b 3) w5.drew _ x hXd hud).mono ?_);rintro e w6 ⟨hE6,u6,rfl,s5,a5,c5,l5,rfl,h51,h52,h53⟩;have b60:=bb0.ext0 (hEd.trans hE6);have b61:=bb1.ext0 (hEd.trans hE6);have e00:=b60.cell 0 rfl;have e01:=b60.cell 1 rfl;have e10:=b61.cell 0 rfl;have e11:=b61.cell 1 rfl)|(go_at_call 188;(with_reducible refine(b4Q (a0i X b 3) w6 _ y (HX.ext hXd hE6) (mkx ZV.mono hvd hE6)).mono ?_);rintro e w7 ⟨hE7,u7,rfl,s6,a6,c6,l6,rfl,h61,h62,h63⟩;have b70:=b60.ext0 hE7;have b71:=b61.ext0 hE7;have g00:=b70.cell 0 rfl;have g01:=b70.cell 1 rfl;have g10:=b71.cell 0 rfl;have g11:=b71.cell 1 rfl;have fr0:=b70.frozen 0;have fr1:=b70.frozen 1;have fr2:=b71.frozen 0;have fr3:=b71.frozen 1))
  all_goals
   obtain⟨ws,hwf,bz0,bz1,qq2,hEs,q4⟩:=a3z (X:=X) (nb:=3) b70 b71 (hE.trans (hE5.trans ((hEd.trans hE6).trans hE7))) hbw (by omega) (.bool s5) (.slice a5 l5.length c5) (.bool s6) (.slice a6 l6.length c6);rw[hwf];have hzn:ZC (mk (a0i X b 3) ws) (.agg #[.bool s5, .slice a5 l5.length c5]) (-x):=⟨s5,a5,c5,l5,rfl,h51,h52,(h53.mono (a0b.mono _) (a0o hE7)).mono (a0b.mono _) q4⟩;have hzd:ZC (mk (a0i X b 3) ws) (.agg #[.bool s6, .slice a6 l6.length c6]) (-y):=⟨s6,a6,c6,l6,rfl,h61,h62,h63.mono (a0b.mono _) q4⟩;have bz2:=qq2 (b+1+1) _ _ (by omega) (by omega) (((bb2.ext0 hEd).ext0 hE6).ext0 hE7);have hzz:w.heap.size+3<=ws.heap.size:=by have:=bz2.lt;omega
   have hXs:HX (a0i X b 3) ws:=hX.boxes' hEs (by have:=hzz;omega) hzz;clear e00 e01 e10 e11 g00 g01 g10 g11 fr0 fr1 fr2 fr3 k00 k01 k10 k11 hwf b60 b61 b70 b71 h51 h52 h53 h61 h62 h63;have hres:=hres0;have hk:=hkn;generalize hsz:s5=sz at*;generalize haz:a5=az at*;generalize hnz:l5.length=nz at*;generalize hcz:c5=cz at*;generalize hsk:s6=sk at*;generalize hak:a6=ak at*;generalize hnk:l6.length=nk at*;generalize hck:c6=ck at*;generalize hxz: -x=z at*;generalize hyk: -y=k at*;have k00:=bz0.cell 0 rfl;have k01:=bz0.cell 1 rfl;have k10:=bz1.cell 0 rfl;have k11:=bz1.cell 1 rfl;have hgp:=hid (Nat.gcd_pos_of_pos_right z.natAbs (show 0<k.natAbs by have:=hk.out;omega));have hgz:=hid (show((Nat.gcd z.natAbs k.natAbs:Nat):Int)∣z from Int.ofNat_dvd_left.2 (Nat.gcd_dvd_left _ _));have hgk:=hid (show((Nat.gcd z.natAbs k.natAbs:Nat):Int)∣k from Int.ofNat_dvd_left.2 (Nat.gcd_dvd_right _ _));have hgl:=hid (show lg (Nat.gcd z.natAbs k.natAbs)<=274877906944 from Nat.le_trans (a1a (Nat.gcd_le_right _ (by have:=hk.out;omega))) bzk.out);have hlow:=hid (a8s z k hk.out);obtain⟨g,hg⟩:∃g,Nat.gcd z.natAbs k.natAbs=g:=⟨_,rfl⟩;rw[hg]at hgp hgz hgk hgl hlow
   replace hg:=hid hg
   go_wp2_with fail
   refine(b4S (a0i X b 3) ws _ _ _ _ hXs (hzn.zv (Nat.le_trans bzn.out (by decide))) (hzd.zv (Nat.le_trans bzk.out (by decide))) bzn.out bzk.out).mono ?_;rintro e6 w6 ⟨hE6,ug,rfl,hug⟩;rw[hg.out]at hug;obtain⟨ag,cg,lgd,rfl,g1,g2,g3⟩:=hug;have bg:=Bx.new w6 #[.bool false, .slice none 0 0] 30;have hXg:=hXs.ext hE6;clear k00 k01 k10 k11;go_wp2_with ((with_reducible show wpList _ _ _ (⟨_, .store _ _ _,_,_,_,_⟩::_) _ _);refine a0c a0C rfl rfl bg rfl rfl (a2F _ _ _ _) ?_;intro w7 r1 r2;have hE7:Ext w6 w7:=ExtX.box ((ExtX.refl w6).alloc _) r2 (Nat.le_refl _);have t7:=hE6.trans hE7;have k00:=(bz0.ext0 t7).cell 0 rfl;have k01:=(bz0.ext0 t7).cell 1 rfl;have k50:=r1.cell 0 rfl;have k51:=r1.cell 1 rfl)
   have hX7:=(hXg.ext hE7);have hug7:ZC (mk (a0i X b 3) w7) (.agg #[.bool false, .slice ag lgd.length cg]) (g:Int):=NC.zc (NC.mono _ _ _ _ (a0o hE7) ⟨ag,cg,lgd,rfl,g1,g2,g3⟩);have hz7:=mkx ZC.mono hzn t7;have hgl2:Hid (lg ((g:Int)).natAbs<=274877906944):=hid (by rw[Int.natAbs_natCast];exact hgl.out);have hgpI:Hid ((0:Int)<(g:Int)):=hid (by have:=hgp.out;omega);refine(b1p (a0i X b 3) w7 _ _ z g hX7 (hz7.zv (Nat.le_trans bzn.out (by decide))) (hug7.zv (Nat.le_trans hgl2.out (by decide))) bzn.out hgl2.out hgpI.out hgz.out).mono ?_;rintro e8 w8 ⟨hE8,up,sv,av,nv,cv,rfl,hup⟩;obtain⟨sp,ap,np,cp,rfl⟩:=hup.shape;obtain⟨W8,hW8,hEb8,bp,br,hz8⟩:=a1Y w8 #[.bool false, .slice none 0 0] #[.bool false, .slice none 0 0] 30 30;subst hW8;clear k00 k01 k50 k51;go_wp2_with ((with_reducible show wpList _ _ _ (⟨_, .store _ _ _,_,_,_,_⟩::_) _ _);first|(refine a0c a0C rfl rfl bp rfl rfl (a2F _ _ _ _) ?_;intro w9 p1 p2;have br':=br.ext p2 (a0e (by omega)))|(refine a0c a0C rfl rfl br' rfl rfl (a2F _ _ _ _) ?_;intro w10 p3 p4;have hE10:Ext w8 w10:=ExtX.box (ExtX.box hEb8 p2 (Nat.le_refl _)) p4 (by omega);have t10:=t7.trans (hE8.trans hE10);have k10:=(bz1.ext0 t10).cell 0 rfl;have k11:=(bz1.ext0 t10).cell 1 rfl;have r10:=r1.ext0 (hE8.trans hE10);have k50:=r10.cell 0 rfl;have k51:=r10.cell 1 rfl;have p10:=p1.ext p4 (a0e (by omega))))
   have hup10:=mkx ZC.mono hup hE10;have hX10:=(hX7.ext hE8).ext hE10;have hk10:=mkx ZC.mono hzd t10;have hug10:=mkx ZC.mono (mkx ZC.mono hug7 hE8) hE10;refine(b1p (a0i X b 3) w10 _ _ k g hX10 (hk10.zv (Nat.le_trans bzk.out (by decide))) (hug10.zv (Nat.le_trans hgl2.out (by decide))) bzk.out hgl2.out hgpI.out hgk.out).mono ?_;rintro e11 w11 ⟨hE11,uq,sv2,av2,nv2,cv2,rfl,huq⟩;obtain⟨sq,aq,nq,cq,rfl⟩:=huq.shape;obtain⟨W11,hW11,hEb11,bq,br2,hz11⟩:=a1Y w11 #[.bool false, .slice none 0 0] #[.bool false, .slice none 0 0] 30 30;subst hW11;clear k10 k11 k50 k51 br' br;go_wp2_with ((with_reducible show wpList _ _ _ (⟨_, .store _ _ _,_,_,_,_⟩::_) _ _);first|(refine a0c a0C rfl rfl bq rfl rfl (a2F _ _ _ _) ?_;intro w12 p5 p6;have br':=br2.ext p6 (a0e (by omega)))|(refine a0c a0C rfl rfl br' rfl rfl (a2F _ _ _ _) ?_;intro w13 p7 p8;have hE13:Ext w11 w13:=ExtX.box (ExtX.box hEb11 p6 (Nat.le_refl _)) p8 (by omega);have t13:=t10.trans (hE11.trans hE13);have q13:=p5.ext p8 (a0e (by omega));have k90:=q13.cell 0 rfl;have k91:=q13.cell 1 rfl;have f90:=q13.frozen 0;have f91:=q13.frozen 1;have p13:=p10.ext0 (hE11.trans hE13);have k60:=p13.cell 0 rfl;have k61:=p13.cell 1 rfl))
   have huq13:=mkx ZC.mono huq hE13;have hup13:=mkx ZC.mono (mkx ZC.mono hup10 hE11) hE13;have hmq:=huq13.mag;have hkq:Hid (lg (k/(g:Int)).natAbs<=1099511627776):=hid (by
    have h1:=hlow.out.2;have:(k/(g:Int)).natAbs<=k.natAbs:=by
     have:=Int.natAbs_ediv_le_natAbs k (g:Int);exact this
    exact Nat.le_trans (a1a this) (Nat.le_trans bzk.out (by decide)))
   have bz13:=bz2.ext0 t13;have hEs13:=hEs.trans t13;refine(b5e _ _ _ _ hmq hkq.out).mono ?_;rintro e14 w14 ⟨rfl,rfl⟩;have hkg:Hid ((q.den:Int)=k/(g:Int)):=hid (by rw[<-hres.out];exact hlow.out.2);have hzg:Hid (q.num=z/(g:Int)):=hid (by rw[<-hres.out];exact hlow.out.1);by_cases h1:(k/(g:Int)).natAbs=1
   ·have hd1:Hid (dn q=0):=hid ((a3M q).2 (by have:=hkg.out;have:=q.den_pos;omega))
    rw[decide_eq_true h1];clear h1;go_upto_region 8 with(fail)
    obtain⟨m1,m2⟩:=a0S q13 (.slice none 0 0) (i:=1) (by simp);obtain⟨w14,hw14⟩:∃w14,w13.setCell ⟨w11.heap.size,1,none⟩ (.slice none 0 0)=w14:=⟨_,rfl⟩;rw[hw14]at m1 m2 |-;have hE14:Ext w11 w14:=ExtX.box hE13 m2 (Nat.le_refl _);have t14:=t10.trans (hE11.trans hE14);have bz14:=bz2.ext0 t14;have p14:=p10.ext0 (hE11.trans hE14);clear k60 k61 k90 k91 f90 f91;have k60:w14.cell? ⟨w8.heap.size,0,none⟩=some (.bool sp):=p14.cell 0 rfl;have k61:w14.cell? ⟨w8.heap.size,1,none⟩=some (.slice ap np cp):=p14.cell 1 rfl;have k91:w14.cell? ⟨w11.heap.size,1,none⟩=some (.slice none 0 0):=m1.cell 1 rfl;have hup14:=mkx ZC.mono (mkx ZC.mono hup10 hE11) hE14;go_wp2_with ((with_reducible show wpList _ _ _ (⟨_, .store _ _ _,_,_,_,_⟩::_) _ _);refine a0c a0w rfl rfl bz14 rfl rfl (a3n _ _ _ _ _ _ _) ?_;intro w15 r3 r4)
    have hfz:ZC (mk (a0i X b 3) w14) (.agg #[.bool sp, .slice ap np cp]) q.num:=by rw[hzg.out];exact hup14
    have hfd:NC (mk (a0i X b 3) w14) (.slice none 0 0) (dn q):=by rw[hd1.out];exact NC.zero _
    have h7:=QC.mono _ _ _ _ a0m (QC.mono _ _ _ _ (a0h r4 (by omega) (by omega)) (QC.of hfz hfd));exact bodyPost_ret (a0f rfl rfl a0w r3 rfl) rfl ⟨ExtX.box (hEs.trans t14) r4 (by omega),_,rfl,h7⟩
   ·have hd1:Hid (dn q=(k/(g:Int)).natAbs):=hid (by
     have h2:=hkg.out;unfold dn;rw[if_neg (by omega)];omega)
    rw[decide_eq_false h1];clear h1;go_wp2_with ((with_reducible show wpList _ _ _ (⟨_, .store _ _ _,_,_,_,_⟩::_) _ _);refine a0c a0w rfl rfl bz13 rfl rfl (a3n _ _ _ _ _ _ _) ?_;intro w15 r3 r4)
    have hfz:ZC (mk (a0i X b 3) w13) (.agg #[.bool sp, .slice ap np cp]) q.num:=by rw[hzg.out];exact hup13
    have hfd:NC (mk (a0i X b 3) w13) (.slice aq nq cq) (dn q):=by rw[hd1.out];exact hmq
    have h7:=QC.mono _ _ _ _ a0m (QC.mono _ _ _ _ (a0h r4 (by omega) (by omega)) (QC.of hfz hfd));exact bodyPost_ret (a0f rfl rfl a0w r3 rfl) rfl ⟨ExtX.box hEs13 r4 (by omega),_,rfl,h7⟩
theorem a5i (X:Nat->Bool) (w:World) (v:Int) (hX:HX X w) (h1: -9223372036854775808<=v) (h2:v<=9223372036854775807):Calls Tryz.prog 48 #[.int .i64 v] w (a2w X w QC v):=by
 obtain⟨W,hW,hE,b0,hz⟩:=a1L w #[.bool false, .slice none 0 0, .slice none 0 0] 32;have hXW:HX (a0i X w.heap.size 1) W:=hX.boxes hz;obtain⟨b,hb⟩:∃b,w.heap.size=b:=⟨_,rfl⟩;have hbw:w.heap.size<=b:=by omega
 rw[hb]at b0 hz hXW;have h1':=hid h1;have h2':=hid h2;clear h1 h2;go_enter Tryz.func48,Tryz.ntmps48
 go_wp2_with fail
 refine(a9W (a0i X b 1) W v hXW h1'.out h2'.out).mono ?_;rintro e1 w1 ⟨hE1,u1,rfl,s6,a6,c6,l6,rfl,h61,h62,h63⟩;have b1':=b0.ext0 hE1;have hcq:=a4N.ofInt h62;go_wp2_with ((with_reducible show wpList _ _ _ (⟨_, .store _ _ _,_,_,_,_⟩::_) _ _);refine a0c a0w rfl rfl b1' rfl rfl (a3n _ _ _ _ _ _ _) ?_;intro w7 r1 r2)
 have h7:=(h63.mono (a0b.mono _) (a0h r2 (by omega) (by omega))).mono (a0b.mono _) a0m;exact bodyPost_ret (a0f rfl rfl a0w r1 rfl) rfl ⟨ExtX.box (hE.trans hE1) r2 (by omega),_,rfl,s6,a6,c6,l6,none,0,[],rfl,h61,Nat.le_refl _,hcq,h7,Sl.nil _ _ _ _⟩
set_option maxRecDepth 100000 in
theorem a3C (X:Nat->Bool) (w:World) (a k:Int) (hX:HX X w) (h1: -9223372036854775808<=a) (h2:a<=9223372036854775807) (h3: -9223372036854775808<=k) (h4:k<=9223372036854775807) (hk:k≠0) (ha:lg a.natAbs<=274877906944) (hkl:lg k.natAbs<=274877906944):Calls Tryz.prog 119 #[.int .i64 a, .int .i64 k] w (a2w X w QC ((a:Rat)/(k:Rat))):=by
 obtain⟨W,hW,hE,b0,hz⟩:=a1L w #[.bool false, .slice none 0 0, .slice none 0 0] 32;have hXW:HX (a0i X w.heap.size 1) W:=hX.boxes hz;obtain⟨b,hb⟩:∃b,w.heap.size=b:=⟨_,rfl⟩;have hbw:w.heap.size<=b:=by omega
 rw[hb]at b0 hz hXW;have hI:=hid (And.intro (And.intro h1 h2) (And.intro (And.intro h3 h4) (And.intro hk (And.intro ha hkl))));clear h1 h2 h3 h4 hk ha hkl;go_enter Tryz.func119,Tryz.ntmps119
 go_wp2_with fail
 refine(a9W (a0i X b 1) W a hXW hI.out.1.1 hI.out.1.2).mono ?_;rintro e1 w1 ⟨hE1,u1,rfl,hu1⟩;have hX1:=hXW.ext hE1;go_wp2_with fail
 refine(a9W (a0i X b 1) w1 k hX1 hI.out.2.1.1 hI.out.2.1.2).mono ?_;rintro e2 w2 ⟨hE2,u2,rfl,hu2⟩;go_wp2_with fail
 refine(b5f (a0i X b 1) w2 _ _ a k (hX1.ext hE2) (mkx ZC.mono hu1 hE2) hu2 hI.out.2.2.2.1 hI.out.2.2.2.2 hI.out.2.2.1).mono ?_;rintro e3 w3 ⟨hE3,u3,rfl,hu3⟩;obtain⟨s5,a5,n5,c5,d5,k5,e5,rfl⟩:=hu3.shape;have bb:=((b0.ext0 hE1).ext0 hE2).ext0 hE3;go_wp2_with ((with_reducible show wpList _ _ _ (⟨_, .store _ _ _,_,_,_,_⟩::_) _ _);refine a0c a0w rfl rfl bb rfl rfl (a3n _ _ _ _ _ _ _) ?_;intro w7 r1 r2)
 have h7:=QC.mono _ _ _ _ a0m (QC.mono _ _ _ _ (a0h r2 (by omega) (by omega)) hu3);exact bodyPost_ret (a0f rfl rfl a0w r1 rfl) rfl ⟨ExtX.box (hE.trans (hE1.trans (hE2.trans hE3))) r2 (by omega),_,rfl,h7⟩
open Go.Lin
set_option maxRecDepth 100000 in
theorem a4r (X:Nat->Bool) (w:World) (v:Int) (hX:HX X w) (h1: -9223372036854775808<=v) (h2:v<=9223372036854775807):Calls Tryz.prog 54 #[.int .i64 v] w (a2w X w QC (a9c v)):=by
 obtain⟨W,hW,hE,b0,hz⟩:=a1L w #[.bool false, .slice none 0 0, .slice none 0 0] 32;have hXW:HX (a0i X w.heap.size 1) W:=hX.boxes hz;obtain⟨b,hb⟩:∃b,w.heap.size=b:=⟨_,rfl⟩;have hbw:w.heap.size<=b:=by omega
 rw[hb]at b0 hz hXW;have ha1:=Int.emod_nonneg v (show(61:Int)≠0 by omega);have ha2:=Int.emod_lt_of_pos v (show(0:Int)<61 by omega);have hb1:=Int.emod_nonneg (v.tdiv 61) (show(4:Int)≠0 by omega);have hb2:=Int.emod_lt_of_pos (v.tdiv 61) (show(0:Int)<4 by omega);have hdef:Hid (((v%61 - 30:Int):Rat)/((1+(v.tdiv 61)%4:Int):Rat)=a9c v):=hid rfl;have hw3:wrap64 (v.tdiv 61)=v.tdiv 61:=IntWalk.wrap64_in _ (by
  have:=Int.tdiv_mul_le v (show(61:Int)≠0 by omega);rcases Int.le_total 0 v with h|h
  ·rw[Int.tdiv_eq_ediv_of_nonneg h];omega
  ·have h5:v.tdiv 61= -((-v)/61):=by
    rw[<-Int.neg_neg v,Int.neg_tdiv,Int.neg_neg,Int.tdiv_eq_ediv_of_nonneg (by omega)]
   rw[h5];omega)
 obtain⟨x,hx⟩:∃x,v%61=x:=⟨_,rfl⟩;obtain⟨q,hq⟩:∃q,v.tdiv 61=q:=⟨_,rfl⟩;rw[hq]at hw3 hb1 hb2 hdef;obtain⟨y,hy⟩:∃y,q%4=y:=⟨_,rfl⟩;rw[hx]at ha1 ha2 hdef;rw[hy]at hb1 hb2 hdef;have hx':=hid hx;have hq':=hid hq;have hy':=hid hy;have hw1:wrap64 (x - 30)=x - 30:=IntWalk.wrap64_in _ (by omega);have hw2:wrap64 (1+y)=1+y:=IntWalk.wrap64_in _ (by omega);have hI:=hid (And.intro h1 h2);clear h1 h2 hx hy;go_enter Tryz.func54,Tryz.ntmps54
 go_wp2_with fail
 refine(a6i W v 61 (by omega) (by omega)).mono ?_;rintro e1 w1 ⟨rfl,rfl⟩;rw[hx'.out];go_wp2_with fail
 refine(a6i w1 q 4 (by omega) (by omega)).mono ?_;rintro e2 w2 ⟨rfl,rfl⟩;rw[hy'.out];go_wp2_with fail
 refine(a3C (a0i X b 1) w2 (x - 30) (1+y) hXW (by omega) (by omega) (by omega) (by omega) (by omega) (Nat.le_trans (a4Q (by omega)) (by decide)) (Nat.le_trans (a4Q (by omega)) (by decide))).mono ?_;rintro e3 w3 ⟨hE3,u3,rfl,hu3⟩;rw[hdef.out]at hu3;obtain⟨s5,a5,n5,c5,d5,k5,e5,rfl⟩:=hu3.shape;have bb:=b0.ext0 hE3;go_wp2_with ((with_reducible show wpList _ _ _ (⟨_, .store _ _ _,_,_,_,_⟩::_) _ _);refine a0c a0w rfl rfl bb rfl rfl (a3n _ _ _ _ _ _ _) ?_;intro w7 r1 r2)
 have h7:=QC.mono _ _ _ _ a0m (QC.mono _ _ _ _ (a0h r2 (by omega) (by omega)) hu3);exact bodyPost_ret (a0f rfl rfl a0w r1 rfl) rfl ⟨ExtX.box (hE.trans hE3) r2 (by omega),_,rfl,h7⟩
end Go.Proofs.YtkddecjkfdogiaaGreat
