/- rational.Mul. Conditions: at most 2^36 digits. rational.Compare, Sign, Neg, Sub. Conditions: at most 2^36 digits. rational.Neg, Sub. Conditions: at most 2^36 digits. rational.Make, Div. Conditions: at most 2^36 digits. reference 03: one, Valid. Conditions: at most 2^36 digits. reference 03: Take, Den. Conditions: at most 2^36 digits. reference 03: TakeList. Conditions: at most 2^20 numbers of at most 2^36 digits. made: Mod, At, Number. Conditions: none but Go's own. Rows turned as law 06 turns them. Conditions: none. reference 03: over. Conditions: at most 2^38 digits. reference 03: FromInt, Sign, Neg. Conditions: at most 2^36 digits. -/
import Derived.Test.YtkddecjkfdogiaaGreatLdE
namespace Go.Proofs.YtkddecjkfdogiaaGreat
open Go.RowKit Go.Rep Go.Lim
set_option maxRecDepth 100000 in
set_option maxHeartbeats 1600000 in
theorem b3z (X:Nat->Bool) (w:World) (u v:Value) (x y:Rat) (hX:HX X w) (hu:QV (mk X w) u x) (hv:QV (mk X w) v y):Calls Tryz.prog 147 #[u,v] w (a1Z X w QC (x*y)):=by
 have hlx:=hid hu.hq;have hly:=hid hv.hq;obtain⟨s1,a1,n1,c1,d1,k1,e1,rfl⟩:=hu.shape;obtain⟨s2,a2,n2,c2,d2,k2,e2,rfl⟩:=hv.shape;obtain⟨W,hW,hE,b0,b1,b2,hz⟩:=a2v w #[.bool s1, .slice a1 n1 c1, .slice d1 k1 e1] #[.bool s2, .slice a2 n2 c2, .slice d2 k2 e2] #[.bool false, .slice none 0 0, .slice none 0 0] 32 32 32;have hXW:HX (a0g X w.heap.size 3) W:=hX.boxes hz;have hu1:=QV.mono _ _ _ _ (a0q (nb:=3) hE) hu;have hv1:=QV.mono _ _ _ _ (a0q (nb:=3) hE) hv;obtain⟨b,hb⟩:∃b,w.heap.size=b:=⟨_,rfl⟩;have hbw:w.heap.size<=b:=by omega
 rw[hb]at b0 b1 b2 hz hXW hu1 hv1;have hEd:Ext W W.drew:=(ExtX.refl W).drew;have hXd:HX (a0g X b 3) W.drew:=hXW;have hud:QV (mk (a0g X b 3) W.drew) (.agg #[.bool s1, .slice a1 n1 c1, .slice d1 k1 e1]) x:=hu1;have hvd:QV (mk (a0g X b 3) W.drew) (.agg #[.bool s2, .slice a2 n2 c2, .slice d2 k2 e2]) y:=hv1;have k00:=b0.cell 0 rfl;have k01:=b0.cell 1 rfl;have k02:=b0.cell 2 rfl;have k10:=b1.cell 0 rfl;have k11:=b1.cell 1 rfl;have k12:=b1.cell 2 rfl;clear hu hv;go_enter Tryz.func147,Tryz.ntmps147
 go_upto_region 1 with(fail)
 go_cut []from 5 to 8 (fun wx=>∃s3 a3 n3 c3 d3 k3 e3 s4 a4 n4 c4 d4 k4 e4,Bx wx b #[.bool s3, .slice a3 n3 c3, .slice d3 k3 e3] 32/\Bx wx (b+1) #[.bool s4, .slice a4 n4 c4, .slice d4 k4 e4] 32/\Bx wx (b+1+1) #[.bool false, .slice none 0 0, .slice none 0 0] 32/\QC (mk (a0g X b 3) wx) (.agg #[.bool s3, .slice a3 n3 c3, .slice d3 k3 e3]) x/\QC (mk (a0g X b 3) wx) (.agg #[.bool s4, .slice a4 n4 c4, .slice d4 k4 e4]) y/\Ext w wx)
 case first=>
  go_region_with (first|(go_at_call 170;(with_reducible refine(a5n (a0g X b 3) W.drew _ x hXd hud).mono ?_);rintro ee w5 ⟨hE5,u5,rfl,hq5⟩;obtain⟨s5,a5,n5,c5,d5,k5,e5,rfl⟩:=hq5.shape;have bb0:=b0.ext0 (hEd.trans hE5);have bb1:=b1.ext0 (hEd.trans hE5);have e00:=bb0.cell 0 rfl;have e01:=bb0.cell 1 rfl;have e02:=bb0.cell 2 rfl;have e10:=bb1.cell 0 rfl;have e11:=bb1.cell 1 rfl;have e12:=bb1.cell 2 rfl)|(go_at_call 170;(with_reducible refine(a5n (a0g X b 3) w5 _ y (HX.ext hXd hE5) (mkx QV.mono hvd hE5)).mono ?_);rintro ee w6 ⟨hE6,u6,rfl,hq6⟩;obtain⟨s6,a6,n6,c6,d6,k6,e6,rfl⟩:=hq6.shape;have bb2:=bb0.ext0 hE6;have bb3:=bb1.ext0 hE6;have g00:=bb2.cell 0 rfl;have g01:=bb2.cell 1 rfl;have g02:=bb2.cell 2 rfl;have g10:=bb3.cell 0 rfl;have g11:=bb3.cell 1 rfl;have g12:=bb3.cell 2 rfl;have fr0:=bb2.frozen 0;have fr1:=bb2.frozen 1;have fr4:=bb2.frozen 2;have fr2:=bb3.frozen 0;have fr3:=bb3.frozen 1;have fr5:=bb3.frozen 2))
  all_goals
   obtain⟨wf,hwf,q0,q1,q2,q3,q4⟩:=a2j (X:=X) (nb:=3) bb2 bb3 (hE.trans ((hEd.trans hE5).trans hE6)) hbw (by omega) (.bool s5) (.slice a5 n5 c5) (.slice d5 k5 e5) (.bool s6) (.slice a6 n6 c6) (.slice d6 k6 e6);rw[hwf];have hfx:QC (mk (a0g X b 3) wf) (.agg #[.bool s5, .slice a5 n5 c5, .slice d5 k5 e5]) x:=QC.mono _ _ _ _ q4 (mkx QC.mono hq5 hE6);have hfy:QC (mk (a0g X b 3) wf) (.agg #[.bool s6, .slice a6 n6 c6, .slice d6 k6 e6]) y:=QC.mono _ _ _ _ q4 hq6;have q5:=q2 (b+1+1) _ _ (by omega) (by omega) ((b2.ext0 (hEd.trans hE5)).ext0 hE6);clear e00 e01 e02 e10 e11 e12 g00 g01 g02 g10 g11 g12 fr0 fr1 fr2 fr3 fr4 fr5 k00 k01 k02 k10 k11 k12 hwf;go_wp2_with fail
   go_meet
   exact⟨_,_,_,_,_,_,_,_,_,_,_,_,_,_,q0,q1,q5,hfx,hfy,q3⟩
 case rest=>
  clear k00 k01 k02 k10 k11 k12 b0 b1 b2 hu1 hv1 hud hvd hXd hEd hW;obtain⟨s3,a3,n3,c3,d3,k3,e3,s4,a4,n4,c4,d4,k4,e4,b0,b1,b2,hx,hy,hE1⟩:=hcut;have hzz:w.heap.size+3<=wc.heap.size:=by have:=b2.lt;omega
  obtain⟨hxz,hxm,hxdn⟩:=hx.num;obtain⟨hyz,hym,hydn⟩:=hy.num;have hXc:HX (a0g X b 3) wc:=hX.boxes' hE1 (by have:=hzz;omega) hzz;have k00:=b0.cell 0 rfl;have k01:=b0.cell 1 rfl;have k02:=b0.cell 2 rfl;have k10:=b1.cell 0 rfl;have k11:=b1.cell 1 rfl;have k12:=b1.cell 2 rfl;have hEd:Ext wc wc.drew:=(ExtX.refl wc).drew;have hXd:HX (a0g X b 3) wc.drew:=hXc;have hxd:QC (mk (a0g X b 3) wc.drew) (.agg #[.bool s3, .slice a3 n3 c3, .slice d3 k3 e3]) x:=hx;have hyd:QC (mk (a0g X b 3) wc.drew) (.agg #[.bool s4, .slice a4 n4 c4, .slice d4 k4 e4]) y:=hy;have hxzd:ZC (mk (a0g X b 3) wc.drew) (.agg #[.bool s3, .slice a3 n3 c3]) x.num:=hxz;have hyzd:ZC (mk (a0g X b 3) wc.drew) (.agg #[.bool s4, .slice a4 n4 c4]) y.num:=hyz;have bxn:lg x.num.natAbs<=549755813888:=Nat.le_trans (Nat.le_trans (a0E x) hlx.out) (by omega);have byn:lg y.num.natAbs<=549755813888:=Nat.le_trans (Nat.le_trans (a0E y) hly.out) (by omega);have bxd:lg x.den<=549755813888:=Nat.le_trans (Nat.le_trans (a0H x) hlx.out) (by omega);have byd:lg y.den<=549755813888:=Nat.le_trans (Nat.le_trans (a0H y) hly.out) (by omega);have bp1:lg (x.num*(y.den:Int)).natAbs<=274877906944:=by rw[Int.natAbs_mul,Int.natAbs_natCast];have:=a1c x.num.natAbs y.den;have:=a0E x;have:=a0H y;have:=hlx.out;have:=hly.out;omega
  have bp2:lg (y.num*(x.den:Int)).natAbs<=274877906944:=by rw[Int.natAbs_mul,Int.natAbs_natCast];have:=a1c y.num.natAbs x.den;have:=a0E y;have:=a0H x;have:=hlx.out;have:=hly.out;omega
  have bdd:lg (x.den*y.den)<=274877906944:=by have:=a1c x.den y.den;have:=a0H x;have:=a0H y;have:=hlx.out;have:=hly.out;omega
  have bnn:lg (x.num*y.num).natAbs<=274877906944:=by rw[Int.natAbs_mul];have:=a1c x.num.natAbs y.num.natAbs;have:=a0E x;have:=a0E y;have:=hlx.out;have:=hly.out;omega
  have bd0:0<x.den*y.den:=Nat.mul_pos x.den_pos y.den_pos;have hB:=hid (And.intro b0 b1);have hS:Hid (∀W',Ext wc.drew W'->W'.cell? ⟨b,0,none⟩=some (.bool s3)/\W'.cell? ⟨b,1,none⟩=some (.slice a3 n3 c3)/\W'.cell? ⟨b,2,none⟩=some (.slice d3 k3 e3)/\W'.cell? ⟨b+1,0,none⟩=some (.bool s4)/\W'.cell? ⟨b+1,1,none⟩=some (.slice a4 n4 c4)/\W'.cell? ⟨b+1,2,none⟩=some (.slice d4 k4 e4)):=
   hid fun W' h=>⟨(b0.ext0 (hEd.trans h)).cell 0 rfl,(b0.ext0 (hEd.trans h)).cell 1 rfl,(b0.ext0 (hEd.trans h)).cell 2 rfl,(b1.ext0 (hEd.trans h)).cell 0 rfl,(b1.ext0 (hEd.trans h)).cell 1 rfl,(b1.ext0 (hEd.trans h)).cell 2 rfl⟩
  have hl3:=hxdn.len0;have hl4:=hydn.len0;rw[a3A]at hl3 hl4;have hxv:=hxzd.zv bxn;have hyv:=hyzd.zv byn;have hfin:Hid (mkRat (x.num*y.num) (x.den*y.den)=x*y):=hid (Rat.mul_def' x y).symm;by_cases hk:k3=0/\k4=0
  ·have hd3:=hid (hl3.1 hk.1)
   have hd4:=hid (hl4.1 hk.2);obtain⟨rfl,rfl⟩:=hk;have hsum:Hid (((x.num*y.num:Int):Rat)=x*y):=hid (by
    rw[Rat.intCast_mul]
    conv=>rhs;rw[<-Rat.mkRat_self x,<-Rat.mkRat_self y]
    rw[hd3.out,hd4.out,<-Rat.mk_den_one,<-Rat.mk_den_one,Rat.mk_eq_mkRat,Rat.mk_eq_mkRat])
   clear hl3 hl4;go_wp2_with fail
   refine(b6p (a0g X b 3) wc _ _ _ _ hXc (hxz.zv bxn) (hyz.zv byn)).mono ?_;rintro ee w5 ⟨hE5,u5,rfl,s6,a6,c6,l6,rfl,h61,h62,h63⟩;have b2':=b2.ext0 hE5;have hcq:=a5r.ofInt h62;rw[hsum.out]at hcq;clear k00 k01 k02 k10 k11 k12;go_wp2_with ((with_reducible show wpList _ _ _ (⟨_, .store _ _ _,_,_,_,_⟩::_) _ _);refine a0b a0u rfl rfl b2' rfl rfl (a2B _ _ _ _ _ _ _) ?_;intro w7 r1 r2)
   have h7:=(h63.mono (a0c.mono _) (a0h r2 (by omega) (by omega))).mono (a0c.mono _) a0k;exact bodyPost_ret (a0f rfl rfl a0u r1 rfl) rfl ⟨ExtX.box (hE1.trans hE5) r2 (by omega),_,rfl,s6,a6,c6,l6,none,0,[],rfl,h61,Nat.le_refl _,hcq,h7,Sl.nil _ _ _ _⟩
  ·rcases(by omega:¬k3=0\/(k3=0/\¬k4=0))with h3|⟨h3,h4⟩
   ·have hI:((k3:Int)==0)=false:=a2X (by omega)
    clear hk hl3 hl4 h3;go_wp2_with fail
    go_region_held3 (fun w'=>w'.cell? ⟨b,0,none⟩=some (.bool s3)/\w'.cell? ⟨b,1,none⟩=some (.slice a3 n3 c3)/\w'.cell? ⟨b,2,none⟩=some (.slice d3 k3 e3)/\w'.cell? ⟨b+1,0,none⟩=some (.bool s4)/\w'.cell? ⟨b+1,1,none⟩=some (.slice a4 n4 c4)/\w'.cell? ⟨b+1,2,none⟩=some (.slice d4 k4 e4))
     (first|exact hS.out _ t1|exact hS.out _ t2|exact hS.out _ t3|exact hS.out _ t4|exact hS.out _ t5|exact⟨((hB.out.1.ext0 (hEd.trans t5)).ext (bb2.set3 _ _ _).2 (a0d (by omega))).cell 0 rfl,((hB.out.1.ext0 (hEd.trans t5)).ext (bb2.set3 _ _ _).2 (a0d (by omega))).cell 1 rfl,((hB.out.1.ext0 (hEd.trans t5)).ext (bb2.set3 _ _ _).2 (a0d (by omega))).cell 2 rfl,((hB.out.2.ext0 (hEd.trans t5)).ext (bb2.set3 _ _ _).2 (a0d (by omega))).cell 0 rfl,((hB.out.2.ext0 (hEd.trans t5)).ext (bb2.set3 _ _ _).2 (a0d (by omega))).cell 1 rfl,((hB.out.2.ext0 (hEd.trans t5)).ext (bb2.set3 _ _ _).2 (a0d (by omega))).cell 2 rfl⟩|go_keep)
     (first|(go_at_call 213;(with_reducible refine(b6p (a0g X b 3) wc.drew _ _ _ _ hXd hxv hyv).mono ?_);rintro ee w5 ⟨t1,u5,rfl,hu5⟩;have hX5:=HX.ext hXd t1;have hx5:=mkx QC.mono hxd t1)|(go_at_call 173;(with_reducible refine(a8N (a0g X b 3) w5 _ x hX5 hx5).mono ?_);rintro ee w6 ⟨hE6,u6,rfl,hu6⟩;have t2:=t1.trans hE6;have hX6:=HX.ext hXd t2;have hy6:=mkx QC.mono hyd t2)|(go_at_call 173;(with_reducible refine(a8N (a0g X b 3) w6 _ y hX6 hy6).mono ?_);rintro ee w7 ⟨hE7,u7,rfl,hu7⟩;have t3:=t2.trans hE7;have hX7:=HX.ext hXd t3;have hm6:=(mkx NC.mono hu6 hE7).nv (Nat.le_trans bxd (by decide));have hm7:=hu7.nv (Nat.le_trans byd (by decide)))|(go_at_call 212;(with_reducible refine(b3o hX7 hm6 hm7).mono ?_);rintro ee w8 ⟨hE8,u8,rfl,hu8⟩;have t4:=t3.trans hE8;have hX8:=HX.ext hXd t4;have hz5:=mkx ZC.mono hu5 (hE6.trans (hE7.trans hE8)))|(go_at_call 211;(with_reducible refine(a4T (a0g X b 3) w8 _ _ _ _ hX8 hz5 hu8 (Nat.le_trans bnn (by decide)) (Nat.le_trans bdd (by decide)) bd0).mono ?_);rintro ee w13 ⟨hE13,u13,rfl,hu13⟩;obtain⟨s13,a13,n13,c13,d13,k13,e13,rfl⟩:=hu13.shape;have t5:=t4.trans hE13;have bb2:=b2.ext0 (hEd.trans t5);have g0:=bb2.cell 0 rfl;have g1:=bb2.cell 1 rfl;have g2:=bb2.cell 2 rfl;have f0:=bb2.frozen 0;have f1:=bb2.frozen 1;have f2:=bb2.frozen 2))
    obtain⟨r1,r2⟩:=bb2.set3 (.bool s13) (.slice a13 n13 c13) (.slice d13 k13 e13);have h7:=QC.mono _ _ _ _ a0k (QC.mono _ _ _ _ (a0h r2 (by omega) (by omega)) hu13);rw[hfin.out]at h7;have hEf:Ext w _:=ExtX.box (hE1.trans (hEd.trans t5)) r2 (by omega);clear g0 g1 g2 f0 f1 f2 k00 k01 k02 k10 k11 k12 hS hB;go_wp2_with fail
    exact bodyPost_ret (a0f rfl rfl a0u r1 rfl) rfl ⟨hEf,_,rfl,h7⟩
   ·have hI:((k4:Int)==0)=false:=a2X (by omega)
    subst h3;clear hk hl3 hl4 h4;go_wp2_with fail
    go_region_held3 (fun w'=>w'.cell? ⟨b,0,none⟩=some (.bool s3)/\w'.cell? ⟨b,1,none⟩=some (.slice a3 n3 c3)/\w'.cell? ⟨b,2,none⟩=some (.slice d3 0 e3)/\w'.cell? ⟨b+1,0,none⟩=some (.bool s4)/\w'.cell? ⟨b+1,1,none⟩=some (.slice a4 n4 c4)/\w'.cell? ⟨b+1,2,none⟩=some (.slice d4 k4 e4))
     (first|exact hS.out _ t1|exact hS.out _ t2|exact hS.out _ t3|exact hS.out _ t4|exact hS.out _ t5|exact⟨((hB.out.1.ext0 (hEd.trans t5)).ext (bb2.set3 _ _ _).2 (a0d (by omega))).cell 0 rfl,((hB.out.1.ext0 (hEd.trans t5)).ext (bb2.set3 _ _ _).2 (a0d (by omega))).cell 1 rfl,((hB.out.1.ext0 (hEd.trans t5)).ext (bb2.set3 _ _ _).2 (a0d (by omega))).cell 2 rfl,((hB.out.2.ext0 (hEd.trans t5)).ext (bb2.set3 _ _ _).2 (a0d (by omega))).cell 0 rfl,((hB.out.2.ext0 (hEd.trans t5)).ext (bb2.set3 _ _ _).2 (a0d (by omega))).cell 1 rfl,((hB.out.2.ext0 (hEd.trans t5)).ext (bb2.set3 _ _ _).2 (a0d (by omega))).cell 2 rfl⟩|go_keep)
     (first|(go_at_call 213;(with_reducible refine(b6p (a0g X b 3) wc.drew _ _ _ _ hXd hxv hyv).mono ?_);rintro ee w5 ⟨t1,u5,rfl,hu5⟩;have hX5:=HX.ext hXd t1;have hx5:=mkx QC.mono hxd t1)|(go_at_call 173;(with_reducible refine(a8N (a0g X b 3) w5 _ x hX5 hx5).mono ?_);rintro ee w6 ⟨hE6,u6,rfl,hu6⟩;have t2:=t1.trans hE6;have hX6:=HX.ext hXd t2;have hy6:=mkx QC.mono hyd t2)|(go_at_call 173;(with_reducible refine(a8N (a0g X b 3) w6 _ y hX6 hy6).mono ?_);rintro ee w7 ⟨hE7,u7,rfl,hu7⟩;have t3:=t2.trans hE7;have hX7:=HX.ext hXd t3;have hm6:=(mkx NC.mono hu6 hE7).nv (Nat.le_trans bxd (by decide));have hm7:=hu7.nv (Nat.le_trans byd (by decide)))|(go_at_call 212;(with_reducible refine(b3o hX7 hm6 hm7).mono ?_);rintro ee w8 ⟨hE8,u8,rfl,hu8⟩;have t4:=t3.trans hE8;have hX8:=HX.ext hXd t4;have hz5:=mkx ZC.mono hu5 (hE6.trans (hE7.trans hE8)))|(go_at_call 211;(with_reducible refine(a4T (a0g X b 3) w8 _ _ _ _ hX8 hz5 hu8 (Nat.le_trans bnn (by decide)) (Nat.le_trans bdd (by decide)) bd0).mono ?_);rintro ee w13 ⟨hE13,u13,rfl,hu13⟩;obtain⟨s13,a13,n13,c13,d13,k13,e13,rfl⟩:=hu13.shape;have t5:=t4.trans hE13;have bb2:=b2.ext0 (hEd.trans t5);have g0:=bb2.cell 0 rfl;have g1:=bb2.cell 1 rfl;have g2:=bb2.cell 2 rfl;have f0:=bb2.frozen 0;have f1:=bb2.frozen 1;have f2:=bb2.frozen 2))
    obtain⟨r1,r2⟩:=bb2.set3 (.bool s13) (.slice a13 n13 c13) (.slice d13 k13 e13);have h7:=QC.mono _ _ _ _ a0k (QC.mono _ _ _ _ (a0h r2 (by omega) (by omega)) hu13);rw[hfin.out]at h7;have hEf:Ext w _:=ExtX.box (hE1.trans (hEd.trans t5)) r2 (by omega);clear g0 g1 g2 f0 f1 f2 k00 k01 k02 k10 k11 k12 hS hB;go_wp2_with fail
    exact bodyPost_ret (a0f rfl rfl a0u r1 rfl) rfl ⟨hEf,_,rfl,h7⟩
theorem a5o (s:Bool) (a d:Option Addr) (n c k e:Nat) (W:World):(Instr.field 32 (.agg #[.bool s, .slice a n c, .slice d k e]) 0).run Tryz.prog W= .ok (.agg #[.bool s, .slice a n c]) W:=by kernel_rfl
set_option maxRecDepth 100000 in
theorem b2B (X:Nat->Bool) (w:World) (u:Value) (x:Rat) (hX:HX X w) (hu:QV (mk X w) u x):Calls Tryz.prog 143 #[u] w (a5B w x.num.sign):=by
 have hlx:=hid hu.hq;obtain⟨s1,a1,n1,c1,d1,k1,e1,rfl⟩:=hu.shape;obtain⟨W,hW,hE,b0,hz⟩:=a1A w #[.bool s1, .slice a1 n1 c1, .slice d1 k1 e1] 32;have hXW:HX X W:=hX.ext hE;have hu1:=mkx QV.mono hu hE;obtain⟨b,hb⟩:∃b,w.heap.size=b:=⟨_,rfl⟩;rw[hb]at b0 hz;have k00:=b0.cell 0 rfl;have k01:=b0.cell 1 rfl;have k02:=b0.cell 2 rfl;have hfl:=a5o;clear hu;go_enter Tryz.func143,Tryz.ntmps143
 go_wp2_with fail
 refine(a5n X W _ x hXW hu1).mono ?_;rintro ee w5 ⟨hE5,u5,rfl,hq5⟩;obtain⟨s5,a5,n5,c5,d5,k5,e5,rfl⟩:=hq5.shape;have hz5:=hq5.num.1.zv (Nat.le_trans (Nat.le_trans (a0E x) hlx.out) (by omega));clear k00 k01 k02;go_wp2_with fail
 refine(b2h X w5 _ _ (hXW.ext hE5) hz5).mono ?_;rintro ee w6 ⟨hE6,rfl⟩;go_wp2_with fail
 go_ret
 exact⟨hE.trans (hE5.trans hE6),rfl⟩
theorem b3A (x:Rat):dn (-x)=dn x:=by unfold dn;rw[Rat.neg_den]
set_option maxRecDepth 100000 in
theorem b7m (X:Nat->Bool) (w:World) (u:Value) (x:Rat) (hX:HX X w) (hu:QV (mk X w) u x):Calls Tryz.prog 202 #[u] w (a1Z X w QC (-x)):=by
 have hlx:=hid hu.hq;obtain⟨s1,a1,n1,c1,d1,k1,e1,rfl⟩:=hu.shape;obtain⟨W,hW,hE,b0,b1,hz⟩:=a1O w #[.bool s1, .slice a1 n1 c1, .slice d1 k1 e1] #[.bool false, .slice none 0 0, .slice none 0 0] 32 32;have hXW:HX (a0g X w.heap.size 2) W:=hX.boxes hz;have hu1:=QV.mono _ _ _ _ (a0q (nb:=2) hE) hu;obtain⟨b,hb⟩:∃b,w.heap.size=b:=⟨_,rfl⟩;have hbw:w.heap.size<=b:=by omega
 rw[hb]at b0 b1 hz hXW hu1;have k00:=b0.cell 0 rfl;have k01:=b0.cell 1 rfl;have k02:=b0.cell 2 rfl;clear hu;go_enter Tryz.func202,Tryz.ntmps202
 go_wp2_with fail
 refine(a5n (a0g X b 2) W _ x hXW hu1).mono ?_;rintro e w5 ⟨hE5,u5,rfl,hq5⟩;obtain⟨s5,a5,n5,c5,d5,k5,e5,rfl⟩:=hq5.shape;have hX5:=hXW.ext hE5;have bb0:=b0.ext0 hE5;have bb1:=b1.ext0 hE5;clear k00 k01 k02;go_upto_region 2 with((with_reducible show wpList _ _ _ (⟨_, .store _ _ _,_,_,_,_⟩::_) _ _);refine a0b a0u rfl rfl bb0 rfl rfl (a2B _ _ _ _ _ _ _) ?_;intro w7 r1 r2;have k00:=r1.cell 0 rfl;have k01:=r1.cell 1 rfl;have k02:=r1.cell 2 rfl)
 have hX7:=hX5.ext r2;have bb3:=bb1.ext r2 (a0d (by omega));have hx7:=QC.mono _ _ _ _ (a0h (X:=X) (lo:=b) (nb:=2) r2 (by omega) (by omega)) hq5;have hE7:Ext w w7:=ExtX.box (hE.trans hE5) r2 (by omega);obtain⟨hxz,hxm,hxdn⟩:=hx7.num;have hEd:Ext w7 w7.drew:=(ExtX.refl w7).drew;have hXd:HX (a0g X b 2) w7.drew:=hX7;have hxzd:ZC (mk (a0g X b 2) w7.drew) (.agg #[.bool s5, .slice a5 n5 c5]) x.num:=hxz;have hxdd:NC (mk (a0g X b 2) w7.drew) (.slice d5 k5 e5) (dn x):=hxdn;have bxn:lg x.num.natAbs<=549755813888:=Nat.le_trans (Nat.le_trans (a0E x) hlx.out) (by omega);have bxd:lg (dn x)<=549755813888:=Nat.le_trans (Nat.le_trans (b0A x) hlx.out) (by omega);have hxv:=hxzd.zv bxn;have hS:Hid (∀W',Ext w7.drew W'->W'.cell? ⟨b,0,none⟩=some (.bool s5)/\W'.cell? ⟨b,1,none⟩=some (.slice a5 n5 c5)/\W'.cell? ⟨b,2,none⟩=some (.slice d5 k5 e5)):=
  hid fun W' h=>⟨(r1.ext0 (hEd.trans h)).cell 0 rfl,(r1.ext0 (hEd.trans h)).cell 1 rfl,(r1.ext0 (hEd.trans h)).cell 2 rfl⟩
 go_region_held3 (fun w'=>w'.cell? ⟨b,0,none⟩=some (.bool s5)/\w'.cell? ⟨b,1,none⟩=some (.slice a5 n5 c5)/\w'.cell? ⟨b,2,none⟩=some (.slice d5 k5 e5))
  (first|exact hS.out _ t1|exact hS.out _ t2|exact⟨((r1.ext0 (hEd.trans t2)).ext (bb2.set3 _ _ _).2 (a0d (by omega))).cell 0 rfl,((r1.ext0 (hEd.trans t2)).ext (bb2.set3 _ _ _).2 (a0d (by omega))).cell 1 rfl,((r1.ext0 (hEd.trans t2)).ext (bb2.set3 _ _ _).2 (a0d (by omega))).cell 2 rfl⟩|go_keep)
  (first|(go_at_call 246;(with_reducible refine(b7a (a0g X b 2) w7.drew _ _ hXd hxv).mono ?_);rintro ee w8 ⟨t1,u8,rfl,s8,a8,c8,l8,rfl,h81,h82,h83⟩;have hX8:=HX.ext hXd t1;have hm8:=(mkx NC.mono hxdd t1).nv (Nat.le_trans bxd (by decide));have hz8:=NC.nv (NC.zero (mk (a0g X b 2) w8)) (by decide))|(go_at_call 153;(with_reducible refine(b6t hX8 hm8 hz8).mono ?_);rintro ee w9 ⟨hE9,u9,rfl,a9,c9,l9,rfl,h91,h92,h93⟩;have t2:=t1.trans hE9;have hh8:=Sl.mono (a0c.mono _) (a0p hE9) h83;have bb2:=bb3.ext0 (hEd.trans t2);have g0:=bb2.cell 0 rfl;have g1:=bb2.cell 1 rfl;have g2:=bb2.cell 2 rfl;have f0:=bb2.frozen 0;have f1:=bb2.frozen 1;have f2:=bb2.frozen 2))
 obtain⟨q1,q2⟩:=bb2.set3 (.bool s8) (.slice a8 l8.length c8) (.slice a9 l9.length c9);have hz:ZC (mk (a0g X b 2) w9) (.agg #[.bool s8, .slice a8 l8.length c8]) (-x).num:=⟨s8,a8,c8,l8,rfl,h81,by rw[Rat.neg_num];exact h82,hh8⟩;have hd:NC (mk (a0g X b 2) w9) (.slice a9 l9.length c9) (dn (-x)):=⟨a9,c9,l9,rfl,h91,by rw[b3A];exact h92,h93⟩;have h7:=QC.mono _ _ _ _ a0k (QC.mono _ _ _ _ (a0h q2 (by omega) (by omega)) (QC.of hz hd));have hEf:Ext w _:=ExtX.box (hE7.trans (hEd.trans t2)) q2 (by omega);clear g0 g1 g2 f0 f1 f2 k00 k01 k02 hS;go_wp2_with fail
 exact bodyPost_ret (a0f rfl rfl a0u q1 rfl) rfl ⟨hEf,_,rfl,h7⟩
set_option maxRecDepth 100000 in
theorem b6A (X:Nat->Bool) (w:World) (u v:Value) (x y:Rat) (hX:HX X w) (hu:QV (mk X w) u x) (hv:QV (mk X w) v y):Calls Tryz.prog 132 #[u,v] w (a1Z X w QC (x - y)):=by
 have hlx:=hid hu.hq;have hly:=hid hv.hq;obtain⟨s1,a1,n1,c1,d1,k1,e1,rfl⟩:=hu.shape;obtain⟨s2,a2,n2,c2,d2,k2,e2,rfl⟩:=hv.shape;obtain⟨W,hW,hE,b0,b1,b2,hz⟩:=a2v w #[.bool s1, .slice a1 n1 c1, .slice d1 k1 e1] #[.bool s2, .slice a2 n2 c2, .slice d2 k2 e2] #[.bool false, .slice none 0 0, .slice none 0 0] 32 32 32;have hXW:HX (a0g X w.heap.size 3) W:=hX.boxes hz;have hu1:=QV.mono _ _ _ _ (a0q (nb:=3) hE) hu;have hv1:=QV.mono _ _ _ _ (a0q (nb:=3) hE) hv;obtain⟨b,hb⟩:∃b,w.heap.size=b:=⟨_,rfl⟩;have hbw:w.heap.size<=b:=by omega
 rw[hb]at b0 b1 b2 hz hXW hu1 hv1;have hEd:Ext W W.drew:=(ExtX.refl W).drew;have hXd:HX (a0g X b 3) W.drew:=hXW;have hud:QV (mk (a0g X b 3) W.drew) (.agg #[.bool s1, .slice a1 n1 c1, .slice d1 k1 e1]) x:=hu1;have hvd:QV (mk (a0g X b 3) W.drew) (.agg #[.bool s2, .slice a2 n2 c2, .slice d2 k2 e2]) y:=hv1;have k00:=b0.cell 0 rfl;have k01:=b0.cell 1 rfl;have k02:=b0.cell 2 rfl;have k10:=b1.cell 0 rfl;have k11:=b1.cell 1 rfl;have k12:=b1.cell 2 rfl;clear hu hv;have hB:=hid (And.intro b0 b1);have hS:Hid (∀W',Ext W.drew W'->W'.cell? ⟨b,0,none⟩=some (.bool s1)/\W'.cell? ⟨b,1,none⟩=some (.slice a1 n1 c1)/\W'.cell? ⟨b,2,none⟩=some (.slice d1 k1 e1)/\W'.cell? ⟨b+1,0,none⟩=some (.bool s2)/\W'.cell? ⟨b+1,1,none⟩=some (.slice a2 n2 c2)/\W'.cell? ⟨b+1,2,none⟩=some (.slice d2 k2 e2)):=
  hid fun W' h=>⟨(b0.ext0 (hEd.trans h)).cell 0 rfl,(b0.ext0 (hEd.trans h)).cell 1 rfl,(b0.ext0 (hEd.trans h)).cell 2 rfl,(b1.ext0 (hEd.trans h)).cell 0 rfl,(b1.ext0 (hEd.trans h)).cell 1 rfl,(b1.ext0 (hEd.trans h)).cell 2 rfl⟩
 have hny:=hid (show hq (-y)<=68719476736 by rw[a5j];exact hly.out);have hsum:Hid (x+ -y=x - y):=hid (Rat.sub_eq_add_neg x y).symm;go_enter Tryz.func132,Tryz.ntmps132
 go_upto_region 1 with(fail)
 go_region_held3 (fun w'=>w'.cell? ⟨b,0,none⟩=some (.bool s1)/\w'.cell? ⟨b,1,none⟩=some (.slice a1 n1 c1)/\w'.cell? ⟨b,2,none⟩=some (.slice d1 k1 e1)/\w'.cell? ⟨b+1,0,none⟩=some (.bool s2)/\w'.cell? ⟨b+1,1,none⟩=some (.slice a2 n2 c2)/\w'.cell? ⟨b+1,2,none⟩=some (.slice d2 k2 e2))
  (first|exact hS.out _ t1|exact hS.out _ t2|exact⟨((hB.out.1.ext0 (hEd.trans t2)).ext (bb2.set3 _ _ _).2 (a0d (by omega))).cell 0 rfl,((hB.out.1.ext0 (hEd.trans t2)).ext (bb2.set3 _ _ _).2 (a0d (by omega))).cell 1 rfl,((hB.out.1.ext0 (hEd.trans t2)).ext (bb2.set3 _ _ _).2 (a0d (by omega))).cell 2 rfl,((hB.out.2.ext0 (hEd.trans t2)).ext (bb2.set3 _ _ _).2 (a0d (by omega))).cell 0 rfl,((hB.out.2.ext0 (hEd.trans t2)).ext (bb2.set3 _ _ _).2 (a0d (by omega))).cell 1 rfl,((hB.out.2.ext0 (hEd.trans t2)).ext (bb2.set3 _ _ _).2 (a0d (by omega))).cell 2 rfl⟩|go_keep)
  (first|(go_at_call 202;(with_reducible refine(b7m (a0g X b 3) W.drew _ y hXd hvd).mono ?_);rintro ee w5 ⟨t1,u5,rfl,hu5⟩;have hX5:=HX.ext hXd t1;have hx5:=mkx QV.mono hud t1)|(go_at_call 146;(with_reducible refine(b3y (a0g X b 3) w5 _ _ x (-y) hX5 hx5 (hu5.qv hny.out)).mono ?_);rintro ee w6 ⟨hE6,u6,rfl,hu6⟩;obtain⟨s6,a6,n6,c6,d6,k6,e6,rfl⟩:=hu6.shape;have t2:=t1.trans hE6;have bb2:=b2.ext0 (hEd.trans t2);have g0:=bb2.cell 0 rfl;have g1:=bb2.cell 1 rfl;have g2:=bb2.cell 2 rfl;have f0:=bb2.frozen 0;have f1:=bb2.frozen 1;have f2:=bb2.frozen 2))
 rw[hsum.out]at hu6;obtain⟨q1,q2⟩:=bb2.set3 (.bool s6) (.slice a6 n6 c6) (.slice d6 k6 e6);have h7:=QC.mono _ _ _ _ a0k (QC.mono _ _ _ _ (a0h q2 (by omega) (by omega)) hu6);have hEf:Ext w _:=ExtX.box (hE.trans (hEd.trans t2)) q2 (by omega);clear g0 g1 g2 f0 f1 f2 k00 k01 k02 k10 k11 k12 hS hB;go_wp2_with fail
 exact bodyPost_ret (a0f rfl rfl a0u q1 rfl) rfl ⟨hEf,_,rfl,h7⟩
def e5 (b:Bool):Int:=if b then 5 else 0
def b5Q (X:Nat->Bool) (w:World) (q:Rat) (c:Int) (e:Ending) (w':World):Prop:=Ext w w'/\∃u,e= .returned (.tuple #[u, .int .i64 c])/\QC (mk X w') u q
theorem b3B (x y:Int) (h:0<y):mkRat x y.natAbs=(x:Rat)/(y:Rat):=by
 rw[Rat.mkRat_eq_div,<-Rat.intCast_natCast,Int.natAbs_of_nonneg (by omega)]
theorem b5R (x y:Int) (h:y<0):mkRat (-x) y.natAbs=(x:Rat)/(y:Rat):=by
 rw[Rat.mkRat_eq_div,<-Rat.intCast_natCast,Int.ofNat_natAbs_of_nonpos (by omega),Rat.intCast_neg,Rat.intCast_neg,Rat.div_def,Rat.div_def,show(-(y:Rat))⁻¹= -(y:Rat)⁻¹ by grind];grind
theorem _root_.Go.Rep.ZC.mag {h:Mem} {s:Bool} {ao:Option Addr} {n c:Nat} {y:Int} (hu:ZC h (.agg #[.bool s, .slice ao n c]) y):NC h (.slice ao n c) y.natAbs:=by
 obtain⟨_,_,_,l,heq,h1,h2,h3⟩:=hu;simp only[Value.agg.injEq,Array.mk.injEq,List.cons.injEq,Value.bool.injEq,Value.slice.injEq,and_true]at heq;obtain⟨rfl,rfl,rfl,rfl⟩:=heq;exact⟨_,_,_,rfl,h1,h2.2,h3⟩
theorem _root_.Go.Rep.ZC.shape {h:Mem} {u:Value} {q:Int} (hu:ZC h u q):∃s ao n c,u= .agg #[.bool s, .slice ao n c]:=by
 obtain⟨s,ao,c,m,rfl,_⟩:=hu;exact⟨_,_,_,_,rfl⟩
set_option maxRecDepth 100000 in
theorem b6B (X:Nat->Bool) (w:World) (u v:Value) (x y:Int) (hX:HX X w) (hu:ZC (mk X w) u x) (hv:ZC (mk X w) v y) (hx:lg x.natAbs<=549755813888) (hy:lg y.natAbs<=549755813888):Calls Tryz.prog 248 #[u,v] w (b5Q X w ((x:Rat)/(y:Rat)) (e5 (decide (y=0)))):=by
 have hlx:=hid hx;have hly:=hid hy;obtain⟨s1,a1,n1,c1,rfl⟩:=hu.shape;obtain⟨s2,a2,n2,c2,rfl⟩:=hv.shape;obtain⟨W,hW,hE,b0,b1,b2,hz⟩:=a2v w #[.bool s1, .slice a1 n1 c1] #[.bool s2, .slice a2 n2 c2] #[.bool false, .slice none 0 0, .slice none 0 0] 30 30 32;have hXW:HX (a0g X w.heap.size 3) W:=hX.boxes hz;have hu1:=ZC.mono _ _ _ _ (a0q (nb:=3) hE) hu;have hv1:=ZC.mono _ _ _ _ (a0q (nb:=3) hE) hv;obtain⟨b,hb⟩:∃b,w.heap.size=b:=⟨_,rfl⟩;have hbw:w.heap.size<=b:=by omega
 rw[hb]at b0 b1 b2 hz hXW hu1 hv1;have hvz:=hv1.zv hy;have huz:=hu1.zv hx;have k00:=b0.cell 0 rfl;have k01:=b0.cell 1 rfl;have k10:=b1.cell 0 rfl;have k11:=b1.cell 1 rfl;have h0:y=0\/0<y\/y<0:=by omega
 obtain⟨ec,hec'⟩:∃ec:Int,e5 (decide (y=0))=ec:=⟨_,rfl⟩;obtain⟨q,hq'⟩:∃q:Rat,(x:Rat)/(y:Rat)=q:=⟨_,rfl⟩;rw[hec',hq'];clear hu hv hx hy;go_enter Tryz.func248,Tryz.ntmps248
 go_wp2_with fail
 refine(b2h (a0g X b 3) W _ _ hXW hvz).mono ?_;rintro e w5 ⟨hE5,rfl⟩;have bb0:=b0.ext0 hE5;have bb1:=b1.ext0 hE5;have bb2:=b2.ext0 hE5;have j00:=bb0.cell 0 rfl;have j01:=bb0.cell 1 rfl;have j10:=bb1.cell 0 rfl;have j11:=bb1.cell 1 rfl;clear k00 k01 k10 k11;rcases h0 with h0|h0|h0
 ·have hec:Hid ((5:Int)=ec):=hid (by rw[<-hec',decide_eq_true h0];rfl)
  have hres:Hid ((0:Rat)=q):=hid (by rw[<-hq',h0,Rat.intCast_zero,Rat.div_def,Rat.inv_zero,Rat.mul_zero]);have hI:(y.sign==0)=true:=by rw[h0];rfl
  generalize y.sign=sgy at*;clear h0 hec' hq';go_wp2_with ((with_reducible show wpList _ _ _ (⟨_, .store _ _ _,_,_,_,_⟩::_) _ _);refine a0b a0u rfl rfl bb2 rfl rfl (a2B _ _ _ _ _ _ _) ?_;intro w7 r1 r2)
  exact bodyPost_ret (a0V rfl rfl a0u r1 rfl) rfl ⟨ExtX.box (hE.trans hE5) r2 (by omega),_,by rw[<-hec.out];rfl,by rw[<-hres.out];exact QC.zero _⟩
 ·have hec:Hid (ec=(0:Int)):=hid (by rw[<-hec',decide_eq_false (by omega)];rfl)
  have hres:Hid (mkRat x y.natAbs=q):=hid (by rw[<-hq'];exact b3B x y h0);have hI:(y.sign==0)=false:=by rw[Int.sign_eq_one_of_pos h0];rfl
  have hI2:decide (y.sign<0)=false:=by rw[Int.sign_eq_one_of_pos h0];rfl
  have hy0:Hid (0<y.natAbs):=hid (by omega);have hvz5:=mkx ZV.mono hvz hE5;have hXs5:=hXW.ext hE5;clear h0 hec' hq';go_wp2_with fail
  refine(b2h (a0g X b 3) w5 _ _ hXs5 hvz5).mono ?_;rintro e ws ⟨hE6,rfl⟩;generalize y.sign=sgy at*;have bz0:=bb0.ext0 hE6;have bz1:=bb1.ext0 hE6;have bz2:=bb2.ext0 hE6;have hXs:=hXs5.ext hE6;have hEs:=hE.trans (hE5.trans hE6);have hzn:=mkx ZC.mono (mkx ZC.mono hu1 hE5) hE6;have hzd:=(mkx ZC.mono (mkx ZC.mono hv1 hE5) hE6).mag;clear j00 j01 j10 j11;generalize hsz:s1=sz at*;generalize haz:a1=az at*;generalize hnz:n1=nz at*;generalize hcz:c1=cz at*;generalize hxz:x=z at*;have bzn:=hlx;have hz0:Hid (z+0=z):=hid (by omega);go_upto_region 5 with(fail)
  have hEd:Ext ws ws.drew:=(ExtX.refl ws).drew;have hXd:HX (a0g X b 3) ws.drew:=hXs;have hxzd:ZC (mk (a0g X b 3) ws.drew) (.agg #[.bool sz, .slice az nz cz]) z:=hzn;have hydd:NC (mk (a0g X b 3) ws.drew) (.slice a2 n2 c2) y.natAbs:=hzd;have hxv:=hxzd.zv bzn.out;have h00:=ZC.zv (ZC.zero (mk (a0g X b 3) ws.drew)) (by decide);have hB:=hid (And.intro bz0 bz1);have hS:Hid (∀W',Ext ws.drew W'->W'.cell? ⟨b,0,none⟩=some (.bool sz)/\W'.cell? ⟨b,1,none⟩=some (.slice az nz cz)/\W'.cell? ⟨b+1,0,none⟩=some (.bool s2)/\W'.cell? ⟨b+1,1,none⟩=some (.slice a2 n2 c2)):=
   hid fun W' h=>⟨(bz0.ext0 (hEd.trans h)).cell 0 rfl,(bz0.ext0 (hEd.trans h)).cell 1 rfl,(bz1.ext0 (hEd.trans h)).cell 0 rfl,(bz1.ext0 (hEd.trans h)).cell 1 rfl⟩
  have k00:=bz0.cell 0 rfl;have k01:=bz0.cell 1 rfl;have k10:=bz1.cell 0 rfl;have k11:=bz1.cell 1 rfl;go_region_held3 (fun w'=>w'.cell? ⟨b,0,none⟩=some (.bool sz)/\w'.cell? ⟨b,1,none⟩=some (.slice az nz cz)/\w'.cell? ⟨b+1,0,none⟩=some (.bool s2)/\w'.cell? ⟨b+1,1,none⟩=some (.slice a2 n2 c2))
   (first|exact hS.out _ t1|exact hS.out _ t2|exact⟨((hB.out.1.ext0 (hEd.trans t2)).ext (bb2.set3 _ _ _).2 (a0d (by omega))).cell 0 rfl,((hB.out.1.ext0 (hEd.trans t2)).ext (bb2.set3 _ _ _).2 (a0d (by omega))).cell 1 rfl,((hB.out.2.ext0 (hEd.trans t2)).ext (bb2.set3 _ _ _).2 (a0d (by omega))).cell 0 rfl,((hB.out.2.ext0 (hEd.trans t2)).ext (bb2.set3 _ _ _).2 (a0d (by omega))).cell 1 rfl⟩|go_keep)
   (first|(go_at_call 210;(with_reducible refine(b5D (a0g X b 3) ws.drew _ _ _ _ hXd hxv h00).mono ?_);rintro ee w8 ⟨t1,u8,rfl,hu8⟩;rw[hz0.out]at hu8;have hX8:=HX.ext hXd t1;have hm8:=mkx NC.mono hydd t1)|(go_at_call 211;(with_reducible refine(a4T (a0g X b 3) w8 _ _ z y.natAbs hX8 hu8 hm8 bzn.out hly.out hy0.out).mono ?_);rintro ee w9 ⟨hE9,u9,rfl,hu9⟩;obtain⟨s9,a9,n9,c9,d9,k9,e9,rfl⟩:=hu9.shape;have t2:=t1.trans hE9;have bb2:=bz2.ext0 (hEd.trans t2);have g0:=bb2.cell 0 rfl;have g1:=bb2.cell 1 rfl;have g2:=bb2.cell 2 rfl;have f0:=bb2.frozen 0;have f1:=bb2.frozen 1;have f2:=bb2.frozen 2))
  rw[hres.out]at hu9;obtain⟨q1,q2⟩:=bb2.set3 (.bool s9) (.slice a9 n9 c9) (.slice d9 k9 e9);have h7:=QC.mono _ _ _ _ a0k (QC.mono _ _ _ _ (a0h q2 (by omega) (by omega)) hu9);have hEf:Ext w _:=ExtX.box (hEs.trans (hEd.trans t2)) q2 (by omega);clear g0 g1 g2 f0 f1 f2 k00 k01 k10 k11 hS hB;go_wp2_with fail
  exact bodyPost_ret (a0V rfl rfl a0u q1 rfl) rfl ⟨hEf,_,by rw[hec.out];rfl,h7⟩
 ·have hec:Hid (ec=(0:Int)):=hid (by rw[<-hec',decide_eq_false (by omega)];rfl)
  have hres:Hid (mkRat (-x) y.natAbs=q):=hid (by rw[<-hq'];exact b5R x y h0);have hI:(y.sign==0)=false:=by rw[Int.sign_eq_neg_one_of_neg h0];rfl
  have hI2:decide (y.sign<0)=true:=by rw[Int.sign_eq_neg_one_of_neg h0];rfl
  have hy0:Hid (0<y.natAbs):=hid (by omega);have hvz5:=mkx ZV.mono hvz hE5;have hXs5:=hXW.ext hE5;clear h0 hec' hq';go_wp2_with fail
  refine(b2h (a0g X b 3) w5 _ _ hXs5 hvz5).mono ?_;rintro e w6 ⟨hE6,rfl⟩;generalize y.sign=sgy at*;have bz0:=bb0.ext0 hE6;have bz1:=bb1.ext0 hE6;have bz2:=bb2.ext0 hE6;have hXs6:=hXs5.ext hE6;have hzn6:=mkx ZV.mono (mkx ZV.mono huz hE5) hE6;clear j00 j01 j10 j11;have k00:=bz0.cell 0 rfl;have k01:=bz0.cell 1 rfl;have k10:=bz1.cell 0 rfl;have k11:=bz1.cell 1 rfl;go_wp2_with fail
  refine(b7a (a0g X b 3) w6 _ _ hXs6 hzn6).mono ?_;rintro e w7 ⟨hE7,u7,rfl,hu7⟩;obtain⟨sz,az,nz,cz,rfl⟩:=hu7.shape;have bn0:=bz0.ext0 hE7;have bn1:=bz1.ext0 hE7;have bn2:=bz2.ext0 hE7;have hXs7:=hXs6.ext hE7;have hEs7:=hE.trans (hE5.trans (hE6.trans hE7));have hzd7:=(mkx ZC.mono (mkx ZC.mono (mkx ZC.mono hv1 hE5) hE6) hE7).mag;have hbz:Hid (lg (-x).natAbs<=549755813888):=hid (by rw[Int.natAbs_neg];exact hlx.out);clear k00 k01 k10 k11 bz0 bz1 bz2;generalize hxz: -x=z at*;go_upto_region 5 with((with_reducible show wpList _ _ _ (⟨_, .store _ _ _,_,_,_,_⟩::_) _ _);refine a0b a0G rfl rfl bn0 rfl rfl (a2G _ _ _ _) ?_;intro ws bz0 r2)
  have bz1:=bn1.ext r2 (a0d (by omega));have bz2:=bn2.ext r2 (a0d (by omega));have hXs:=hXs7.ext r2;have hzn:=ZC.mono _ _ _ _ (a0h (X:=X) (lo:=b) (nb:=3) r2 (by omega) (by omega)) hu7;have hzd:=NC.mono _ _ _ _ (a0h (X:=X) (lo:=b) (nb:=3) r2 (by omega) (by omega)) hzd7;have hEs:Ext w ws:=ExtX.box hEs7 r2 (by omega);have bzn:=hbz;have hz0:Hid (z+0=z):=hid (by omega);have hEd:Ext ws ws.drew:=(ExtX.refl ws).drew;have hXd:HX (a0g X b 3) ws.drew:=hXs;have hxzd:ZC (mk (a0g X b 3) ws.drew) (.agg #[.bool sz, .slice az nz cz]) z:=hzn;have hydd:NC (mk (a0g X b 3) ws.drew) (.slice a2 n2 c2) y.natAbs:=hzd;have hxv:=hxzd.zv bzn.out;have h00:=ZC.zv (ZC.zero (mk (a0g X b 3) ws.drew)) (by decide);have hB:=hid (And.intro bz0 bz1);have hS:Hid (∀W',Ext ws.drew W'->W'.cell? ⟨b,0,none⟩=some (.bool sz)/\W'.cell? ⟨b,1,none⟩=some (.slice az nz cz)/\W'.cell? ⟨b+1,0,none⟩=some (.bool s2)/\W'.cell? ⟨b+1,1,none⟩=some (.slice a2 n2 c2)):=
   hid fun W' h=>⟨(bz0.ext0 (hEd.trans h)).cell 0 rfl,(bz0.ext0 (hEd.trans h)).cell 1 rfl,(bz1.ext0 (hEd.trans h)).cell 0 rfl,(bz1.ext0 (hEd.trans h)).cell 1 rfl⟩
  have k00:=bz0.cell 0 rfl;have k01:=bz0.cell 1 rfl;have k10:=bz1.cell 0 rfl;have k11:=bz1.cell 1 rfl;go_region_held3 (fun w'=>w'.cell? ⟨b,0,none⟩=some (.bool sz)/\w'.cell? ⟨b,1,none⟩=some (.slice az nz cz)/\w'.cell? ⟨b+1,0,none⟩=some (.bool s2)/\w'.cell? ⟨b+1,1,none⟩=some (.slice a2 n2 c2))
   (first|exact hS.out _ t1|exact hS.out _ t2|exact⟨((hB.out.1.ext0 (hEd.trans t2)).ext (bb2.set3 _ _ _).2 (a0d (by omega))).cell 0 rfl,((hB.out.1.ext0 (hEd.trans t2)).ext (bb2.set3 _ _ _).2 (a0d (by omega))).cell 1 rfl,((hB.out.2.ext0 (hEd.trans t2)).ext (bb2.set3 _ _ _).2 (a0d (by omega))).cell 0 rfl,((hB.out.2.ext0 (hEd.trans t2)).ext (bb2.set3 _ _ _).2 (a0d (by omega))).cell 1 rfl⟩|go_keep)
   (first|(go_at_call 210;(with_reducible refine(b5D (a0g X b 3) ws.drew _ _ _ _ hXd hxv h00).mono ?_);rintro ee w8 ⟨t1,u8,rfl,hu8⟩;rw[hz0.out]at hu8;have hX8:=HX.ext hXd t1;have hm8:=mkx NC.mono hydd t1)|(go_at_call 211;(with_reducible refine(a4T (a0g X b 3) w8 _ _ z y.natAbs hX8 hu8 hm8 bzn.out hly.out hy0.out).mono ?_);rintro ee w9 ⟨hE9,u9,rfl,hu9⟩;obtain⟨s9,a9,n9,c9,d9,k9,e9,rfl⟩:=hu9.shape;have t2:=t1.trans hE9;have bb2:=bz2.ext0 (hEd.trans t2);have g0:=bb2.cell 0 rfl;have g1:=bb2.cell 1 rfl;have g2:=bb2.cell 2 rfl;have f0:=bb2.frozen 0;have f1:=bb2.frozen 1;have f2:=bb2.frozen 2))
  rw[hres.out]at hu9;obtain⟨q1,q2⟩:=bb2.set3 (.bool s9) (.slice a9 n9 c9) (.slice d9 k9 e9);have h7:=QC.mono _ _ _ _ a0k (QC.mono _ _ _ _ (a0h q2 (by omega) (by omega)) hu9);have hEf:Ext w _:=ExtX.box (hEs.trans (hEd.trans t2)) q2 (by omega);clear g0 g1 g2 f0 f1 f2 k00 k01 k10 k11 hS hB;go_wp2_with fail
  exact bodyPost_ret (a0V rfl rfl a0u q1 rfl) rfl ⟨hEf,_,by rw[hec.out];rfl,h7⟩
theorem b3C (x y:Rat):((x.num*(y.den:Int):Int):Rat)/((y.num*(x.den:Int):Int):Rat)=x/y:=by
 have hx:(x.num:Rat)/(x.den:Rat)=x:=by rw[<-Rat.mkRat_eq_div];exact Rat.mkRat_self x
 have hy:(y.num:Rat)/(y.den:Rat)=y:=by rw[<-Rat.mkRat_eq_div];exact Rat.mkRat_self y
 rw[Rat.intCast_mul,Rat.intCast_mul,Rat.intCast_natCast,Rat.intCast_natCast];have h1:(x.den:Rat)≠0:=by have:=x.den_nz;exact_mod_cast this
 have h2:(y.den:Rat)≠0:=by have:=y.den_nz;exact_mod_cast this
 by_cases h3:(y.num:Rat)=0
 ·rw[<-hy,h3];simp[Rat.div_def]
 ·conv=>rhs;rw[<-hx,<-hy]
  grind
theorem b2C (y x:Rat):y.num*(x.den:Int)=0↔y=0:=by
 have h1:(x.den:Int)≠0:=by have:=x.den_nz;omega
 rw[Int.mul_eq_zero,Rat.num_eq_zero];exact or_iff_left h1
set_option maxRecDepth 100000 in
set_option maxHeartbeats 1600000 in
theorem b6C (X:Nat->Bool) (w:World) (u v:Value) (x y:Rat) (hX:HX X w) (hu:QV (mk X w) u x) (hv:QV (mk X w) v y):Calls Tryz.prog 209 #[u,v] w (b5Q X w (x/y) (e5 (decide (y=0)))):=by
 have hlx:=hid hu.hq;have hly:=hid hv.hq;obtain⟨s1,a1,n1,c1,d1,k1,e1,rfl⟩:=hu.shape;obtain⟨s2,a2,n2,c2,d2,k2,e2,rfl⟩:=hv.shape;obtain⟨W,hW,hE,b0,b1,b2,hz⟩:=a2v w #[.bool s1, .slice a1 n1 c1, .slice d1 k1 e1] #[.bool s2, .slice a2 n2 c2, .slice d2 k2 e2] #[.bool false, .slice none 0 0, .slice none 0 0] 32 32 32;have hXW:HX (a0g X w.heap.size 3) W:=hX.boxes hz;have hu1:=QV.mono _ _ _ _ (a0q (nb:=3) hE) hu;have hv1:=QV.mono _ _ _ _ (a0q (nb:=3) hE) hv;obtain⟨b,hb⟩:∃b,w.heap.size=b:=⟨_,rfl⟩;have hbw:w.heap.size<=b:=by omega
 rw[hb]at b0 b1 b2 hz hXW hu1 hv1;have hEd:Ext W W.drew:=(ExtX.refl W).drew;have hXd:HX (a0g X b 3) W.drew:=hXW;have hud:QV (mk (a0g X b 3) W.drew) (.agg #[.bool s1, .slice a1 n1 c1, .slice d1 k1 e1]) x:=hu1;have hvd:QV (mk (a0g X b 3) W.drew) (.agg #[.bool s2, .slice a2 n2 c2, .slice d2 k2 e2]) y:=hv1;have k00:=b0.cell 0 rfl;have k01:=b0.cell 1 rfl;have k02:=b0.cell 2 rfl;have k10:=b1.cell 0 rfl;have k11:=b1.cell 1 rfl;have k12:=b1.cell 2 rfl;clear hu hv;obtain⟨ec,hec'⟩:∃ec:Int,e5 (decide (y=0))=ec:=⟨_,rfl⟩;rw[hec']
 replace hec':=hid hec'
 go_enter Tryz.func209,Tryz.ntmps209
 go_upto_region 1 with(fail)
 go_cut []from 6 to 9 (fun wx=>∃s3 a3 n3 c3 d3 k3 e3 s4 a4 n4 c4 d4 k4 e4,Bx wx b #[.bool s3, .slice a3 n3 c3, .slice d3 k3 e3] 32/\Bx wx (b+1) #[.bool s4, .slice a4 n4 c4, .slice d4 k4 e4] 32/\Bx wx (b+1+1) #[.bool false, .slice none 0 0, .slice none 0 0] 32/\QC (mk (a0g X b 3) wx) (.agg #[.bool s3, .slice a3 n3 c3, .slice d3 k3 e3]) x/\QC (mk (a0g X b 3) wx) (.agg #[.bool s4, .slice a4 n4 c4, .slice d4 k4 e4]) y/\Ext w wx)
 case first=>
  go_region_with (first|(go_at_call 170;(with_reducible refine(a5n (a0g X b 3) W.drew _ x hXd hud).mono ?_);rintro ee w5 ⟨hE5,u5,rfl,hq5⟩;obtain⟨s5,a5,n5,c5,d5,k5,e5,rfl⟩:=hq5.shape;have bb0:=b0.ext0 (hEd.trans hE5);have bb1:=b1.ext0 (hEd.trans hE5);have e00:=bb0.cell 0 rfl;have e01:=bb0.cell 1 rfl;have e02:=bb0.cell 2 rfl;have e10:=bb1.cell 0 rfl;have e11:=bb1.cell 1 rfl;have e12:=bb1.cell 2 rfl)|(go_at_call 170;(with_reducible refine(a5n (a0g X b 3) w5 _ y (HX.ext hXd hE5) (mkx QV.mono hvd hE5)).mono ?_);rintro ee w6 ⟨hE6,u6,rfl,hq6⟩;obtain⟨s6,a6,n6,c6,d6,k6,e6,rfl⟩:=hq6.shape;have bb2:=bb0.ext0 hE6;have bb3:=bb1.ext0 hE6;have g00:=bb2.cell 0 rfl;have g01:=bb2.cell 1 rfl;have g02:=bb2.cell 2 rfl;have g10:=bb3.cell 0 rfl;have g11:=bb3.cell 1 rfl;have g12:=bb3.cell 2 rfl;have fr0:=bb2.frozen 0;have fr1:=bb2.frozen 1;have fr4:=bb2.frozen 2;have fr2:=bb3.frozen 0;have fr3:=bb3.frozen 1;have fr5:=bb3.frozen 2))
  all_goals
   obtain⟨wf,hwf,q0,q1,q2,q3,q4⟩:=a2j (X:=X) (nb:=3) bb2 bb3 (hE.trans ((hEd.trans hE5).trans hE6)) hbw (by omega) (.bool s5) (.slice a5 n5 c5) (.slice d5 k5 e5) (.bool s6) (.slice a6 n6 c6) (.slice d6 k6 e6);rw[hwf];have hfx:QC (mk (a0g X b 3) wf) (.agg #[.bool s5, .slice a5 n5 c5, .slice d5 k5 e5]) x:=QC.mono _ _ _ _ q4 (mkx QC.mono hq5 hE6);have hfy:QC (mk (a0g X b 3) wf) (.agg #[.bool s6, .slice a6 n6 c6, .slice d6 k6 e6]) y:=QC.mono _ _ _ _ q4 hq6;have q5:=q2 (b+1+1) _ _ (by omega) (by omega) ((b2.ext0 (hEd.trans hE5)).ext0 hE6);clear e00 e01 e02 e10 e11 e12 g00 g01 g02 g10 g11 g12 fr0 fr1 fr2 fr3 fr4 fr5 k00 k01 k02 k10 k11 k12 hwf;go_wp2_with fail
   go_meet
   exact⟨_,_,_,_,_,_,_,_,_,_,_,_,_,_,q0,q1,q5,hfx,hfy,q3⟩
 case rest=>
  clear k00 k01 k02 k10 k11 k12 b0 b1 b2 hu1 hv1 hud hvd hXd hEd hW;obtain⟨s3,a3,n3,c3,d3,k3,e3,s4,a4,n4,c4,d4,k4,e4,b0,b1,b2,hx,hy,hE1⟩:=hcut;have hzz:w.heap.size+3<=wc.heap.size:=by have:=b2.lt;omega
  obtain⟨hxz,hxm,hxdn⟩:=hx.num;obtain⟨hyz,hym,hydn⟩:=hy.num;have hXc:HX (a0g X b 3) wc:=hX.boxes' hE1 (by have:=hzz;omega) hzz;have k00:=b0.cell 0 rfl;have k01:=b0.cell 1 rfl;have k02:=b0.cell 2 rfl;have k10:=b1.cell 0 rfl;have k11:=b1.cell 1 rfl;have k12:=b1.cell 2 rfl;have hEd:Ext wc wc.drew:=(ExtX.refl wc).drew;have hXd:HX (a0g X b 3) wc.drew:=hXc;have hxd:QC (mk (a0g X b 3) wc.drew) (.agg #[.bool s3, .slice a3 n3 c3, .slice d3 k3 e3]) x:=hx;have hyd:QC (mk (a0g X b 3) wc.drew) (.agg #[.bool s4, .slice a4 n4 c4, .slice d4 k4 e4]) y:=hy;have hxzd:ZC (mk (a0g X b 3) wc.drew) (.agg #[.bool s3, .slice a3 n3 c3]) x.num:=hxz;have hyzd:ZC (mk (a0g X b 3) wc.drew) (.agg #[.bool s4, .slice a4 n4 c4]) y.num:=hyz;have bxn:lg x.num.natAbs<=549755813888:=Nat.le_trans (Nat.le_trans (a0E x) hlx.out) (by omega);have byn:lg y.num.natAbs<=549755813888:=Nat.le_trans (Nat.le_trans (a0E y) hly.out) (by omega);have bxd:lg x.den<=549755813888:=Nat.le_trans (Nat.le_trans (a0H x) hlx.out) (by omega);have byd:lg y.den<=549755813888:=Nat.le_trans (Nat.le_trans (a0H y) hly.out) (by omega);have bp1:lg (x.num*(y.den:Int)).natAbs<=274877906944:=by rw[Int.natAbs_mul,Int.natAbs_natCast];have:=a1c x.num.natAbs y.den;have:=a0E x;have:=a0H y;have:=hlx.out;have:=hly.out;omega
  have bp2:lg (y.num*(x.den:Int)).natAbs<=274877906944:=by rw[Int.natAbs_mul,Int.natAbs_natCast];have:=a1c y.num.natAbs x.den;have:=a0E y;have:=a0H x;have:=hlx.out;have:=hly.out;omega
  have bdd:lg (x.den*y.den)<=274877906944:=by have:=a1c x.den y.den;have:=a0H x;have:=a0H y;have:=hlx.out;have:=hly.out;omega
  have bnn:lg (x.num*y.num).natAbs<=274877906944:=by rw[Int.natAbs_mul];have:=a1c x.num.natAbs y.num.natAbs;have:=a0E x;have:=a0E y;have:=hlx.out;have:=hly.out;omega
  have bd0:0<x.den*y.den:=Nat.mul_pos x.den_pos y.den_pos;have hB:=hid (And.intro b0 b1);have hS:Hid (∀W',Ext wc.drew W'->W'.cell? ⟨b,0,none⟩=some (.bool s3)/\W'.cell? ⟨b,1,none⟩=some (.slice a3 n3 c3)/\W'.cell? ⟨b,2,none⟩=some (.slice d3 k3 e3)/\W'.cell? ⟨b+1,0,none⟩=some (.bool s4)/\W'.cell? ⟨b+1,1,none⟩=some (.slice a4 n4 c4)/\W'.cell? ⟨b+1,2,none⟩=some (.slice d4 k4 e4)):=
   hid fun W' h=>⟨(b0.ext0 (hEd.trans h)).cell 0 rfl,(b0.ext0 (hEd.trans h)).cell 1 rfl,(b0.ext0 (hEd.trans h)).cell 2 rfl,(b1.ext0 (hEd.trans h)).cell 0 rfl,(b1.ext0 (hEd.trans h)).cell 1 rfl,(b1.ext0 (hEd.trans h)).cell 2 rfl⟩
  have hfin:Hid (((x.num*(y.den:Int):Int):Rat)/((y.num*(x.den:Int):Int):Rat)=x/y):=hid (b3C x y);have hfe:Hid (e5 (decide (y.num*(x.den:Int)=0))=ec):=hid (by rw[<-hec'.out];simp only[b2C]);go_wp2_with fail
  go_region_held3 (fun w'=>w'.cell? ⟨b,0,none⟩=some (.bool s3)/\w'.cell? ⟨b,1,none⟩=some (.slice a3 n3 c3)/\w'.cell? ⟨b,2,none⟩=some (.slice d3 k3 e3)/\w'.cell? ⟨b+1,0,none⟩=some (.bool s4)/\w'.cell? ⟨b+1,1,none⟩=some (.slice a4 n4 c4)/\w'.cell? ⟨b+1,2,none⟩=some (.slice d4 k4 e4))
   (first|exact hS.out _ t1|exact hS.out _ t2|exact hS.out _ t3|exact hS.out _ t4|exact hS.out _ t5|exact⟨((hB.out.1.ext0 (hEd.trans t5)).ext (bb2.set3 _ _ _).2 (a0d (by omega))).cell 0 rfl,((hB.out.1.ext0 (hEd.trans t5)).ext (bb2.set3 _ _ _).2 (a0d (by omega))).cell 1 rfl,((hB.out.1.ext0 (hEd.trans t5)).ext (bb2.set3 _ _ _).2 (a0d (by omega))).cell 2 rfl,((hB.out.2.ext0 (hEd.trans t5)).ext (bb2.set3 _ _ _).2 (a0d (by omega))).cell 0 rfl,((hB.out.2.ext0 (hEd.trans t5)).ext (bb2.set3 _ _ _).2 (a0d (by omega))).cell 1 rfl,((hB.out.2.ext0 (hEd.trans t5)).ext (bb2.set3 _ _ _).2 (a0d (by omega))).cell 2 rfl⟩|go_keep)
   (first|(go_at_call 173;(with_reducible refine(a8N (a0g X b 3) wc.drew _ y hXd hyd).mono ?_);rintro ee w5 ⟨t1,u5,rfl,hu5⟩;have hX5:=HX.ext hXd t1;have hx5:=mkx ZC.mono hxzd t1)|(go_at_call 172;(with_reducible refine(a6s (a0g X b 3) w5 _ _ x.num y.den hX5 hx5 hu5 bxn byd).mono ?_);rintro ee w6 ⟨hE6,u6,rfl,hu6⟩;have t2:=t1.trans hE6;have hX6:=HX.ext hXd t2;have hx6:=mkx QC.mono hxd t2)|(go_at_call 173;(with_reducible refine(a8N (a0g X b 3) w6 _ x hX6 hx6).mono ?_);rintro ee w7 ⟨hE7,u7,rfl,hu7⟩;have t3:=t2.trans hE7;have hX7:=HX.ext hXd t3;have hy7:=mkx ZC.mono hyzd t3)|(go_at_call 172;(with_reducible refine(a6s (a0g X b 3) w7 _ _ y.num x.den hX7 hy7 hu7 byn bxd).mono ?_);rintro ee w8 ⟨hE8,u8,rfl,hu8⟩;have t4:=t3.trans hE8;have hX8:=HX.ext hXd t4;have hz6:=mkx ZC.mono hu6 (hE7.trans hE8))|(go_at_call 248;(with_reducible refine(b6B (a0g X b 3) w8 _ _ _ _ hX8 hz6 hu8 (Nat.le_trans bp1 (by decide)) (Nat.le_trans bp2 (by decide))).mono ?_);rintro ee w13 ⟨hE13,u13,rfl,hu13⟩;obtain⟨s13,a13,n13,c13,d13,k13,e13,rfl⟩:=hu13.shape;have t5:=t4.trans hE13;have bb2:=b2.ext0 (hEd.trans t5);have g0:=bb2.cell 0 rfl;have g1:=bb2.cell 1 rfl;have g2:=bb2.cell 2 rfl;have f0:=bb2.frozen 0;have f1:=bb2.frozen 1;have f2:=bb2.frozen 2))
  obtain⟨r1,r2⟩:=bb2.set3 (.bool s13) (.slice a13 n13 c13) (.slice d13 k13 e13);have h7:=QC.mono _ _ _ _ a0k (QC.mono _ _ _ _ (a0h r2 (by omega) (by omega)) hu13);rw[hfin.out]at h7;have hEf:Ext w _:=ExtX.box (hE1.trans (hEd.trans t5)) r2 (by omega);clear g0 g1 g2 f0 f1 f2 k00 k01 k02 k10 k11 k12 hS hB;go_wp2_with fail
  exact bodyPost_ret (a0V rfl rfl a0u r1 rfl) rfl ⟨hEf,_,by rw[<-hfe.out];rfl,h7⟩
theorem b2D (X:Nat->Bool) (w:World) (u:Value) (n:Nat) (hu:NC (mk X w) u n) (hn:lg n<=1099511627776):Calls Tryz.prog 191 #[u] w fun e w'=>w=w'/\e= .returned (.bool (decide (n=1))):=by
 obtain⟨ao,ca,a,rfl,hca,hcan,hsa⟩:=hu;have hal:=hcan.len;by_cases h1:a.length=1
 ·have hk:0<a.length:=by omega
  have hcell:=hsa.nat 0 hk;have hh:=hsa.hd;obtain⟨x,rfl⟩:∃x,a= [x]:=by
   match a,h1 with
   | [x],_=>exact⟨x,rfl⟩
  have hnx:n=x:=by have:=hcan.2.2;simp[nv]at this;omega
  obtain rfl:=hnx;simp only[List.length_singleton,List.getElem_cons_zero]at hcell hca hh hk |-;by_cases h2:n=1
  ·have hI:((n:Int)==1)=true:=by rw[h2];rfl
   have hf:Hid (decide (n=1)=true):=hid (decide_eq_true h2);clear h2 h1 hcan hsa hal;go_enter Tryz.func191,Tryz.ntmps191
   go_wp2_with (with_reducible refine a0t a0O (by omega) (by assumption) ?_)
   go_ret
   exact⟨rfl,a0j hf.out.symm⟩
  ·have hI:((n:Int)==1)=false:=a2X (by omega)
   have hf:Hid (decide (n=1)=false):=hid (decide_eq_false h2);clear h2 h1 hcan hsa hal;go_enter Tryz.func191,Tryz.ntmps191
   go_wp2_with (with_reducible refine a0t a0O (by omega) (by assumption) ?_)
   go_ret
   exact⟨rfl,a0j hf.out.symm⟩
 ·have hI:((a.length:Int)==1)=false:=a2X (by omega)
  have hf:Hid (decide (n=1)=false):=hid (decide_eq_false (by rintro rfl;rw[a3w]at hal;exact h1 hal));have hal2:a.length<=1099511627776:=by omega
  clear h1 hal hn;go_enter Tryz.func191,Tryz.ntmps191
  go_wp2_with (with_reducible refine a0t a0O (by omega) (by assumption) ?_)
  go_ret
  exact⟨rfl,a0j hf.out.symm⟩
set_option maxRecDepth 100000 in
theorem b0T (X:Nat->Bool) (w:World) (s:Bool) (ao bo:Option Addr) (c e:Nat) (m d:List Nat) (hX:HX X w) (hm:Sl (a0c .u32) 1 (mk X w) ao m) (hd:Sl (a0c .u32) 1 (mk X w) bo d) (hml:m.length<=68719476736) (hdl:d.length<=68719476736) (hmd:Dig m) (hdd:Dig d) (hmc:m.length<=c) (hdc:d.length<=e):
  Calls Tryz.prog 182 #[.agg #[.bool s, .slice ao m.length c, .slice bo d.length e]] w (a7U w (a1r s m d)):=by
 obtain⟨W,hW,hE,b0,hz⟩:=a1A w #[.bool s, .slice ao m.length c, .slice bo d.length e] 32;have hXW:HX X W:=hX.ext hE;have hmW:=hm.mono (a0c.mono _) (a0p hE);have hdW:=hd.mono (a0c.mono _) (a0p hE);obtain⟨b,hb⟩:∃b,w.heap.size=b:=⟨_,rfl⟩;rw[hb]at b0 hz;have k00:=b0.cell 0 rfl;have k01:=b0.cell 1 rfl;have k02:=b0.cell 2 rfl;have hdef:Hid (a1r s m d=(a1o s m&&a1y d&&(decide (d.length=0)||(decide (0<m.length)&& !(nv d==1)&&(Nat.gcd (nv m) (nv d)==1))))):=hid rfl;clear hX hm hd hz;cases hv:a1o s m
 ·have hf:Hid (a1r s m d=false):=hid (by rw[hdef.out,hv];rfl)
  have hv':=hid hv;clear hv hdef;go_enter Tryz.func182,Tryz.ntmps182
  go_wp2_with fail
  refine(a5H X W s ao c m hmW (by omega)).mono ?_;rintro e w1 ⟨hE1,rfl⟩;rw[hv'.out];clear k00 k01 k02;go_wp2_with fail
  go_ret
  exact⟨hE.trans hE1,a0j hf.out.symm⟩
 ·cases hl:a1y d
  ·have hf:Hid (a1r s m d=false):=hid (by rw[hdef.out,hv,hl];rfl)
   have hv':=hid hv;have hl':=hid hl;clear hv hdef hl;go_enter Tryz.func182,Tryz.ntmps182
   go_wp2_with fail
   refine(a5H X W s ao c m hmW (by omega)).mono ?_;rintro e w1 ⟨hE1,rfl⟩;rw[hv'.out];have j02:=(b0.ext0 hE1).cell 2 rfl;have hd1:=hdW.mono (a0c.mono _) (a0p hE1);clear k00 k01 k02;go_wp2_with fail
   refine(a1X X _ _ _ _ hd1 (by omega)).mono ?_;rintro e w2 ⟨rfl,rfl⟩;rw[hl'.out];clear j02;go_wp2_with fail
   go_ret
   exact⟨hE.trans hE1,a0j hf.out.symm⟩
  ·have hf:Hid (a1r s m d=(decide (d.length=0)||(decide (0<m.length)&& !(nv d==1)&&(Nat.gcd (nv m) (nv d)==1)))):=hid (by rw[hdef.out,hv,hl];rfl)
   have hv':=hid hv;have hl':=hid hl;have hmv:a1y m=true:=by unfold a1o at hv;simp at hv;exact hv.1
   have hcm:=hid (show a0I m (nv m)from⟨hmd,hmv,rfl⟩);have hcd:=hid (show a0I d (nv d)from⟨hdd,hl,rfl⟩);have hln:=hid hcd.out.len;have hln':=hid hcm.out.len;clear hv hdef hl hmv;go_enter Tryz.func182,Tryz.ntmps182
   go_wp2_with fail
   refine(a5H X W s ao c m hmW (by omega)).mono ?_;rintro e' w1 ⟨hE1,rfl⟩;rw[hv'.out];have b1:=b0.ext0 hE1;have j02:=b1.cell 2 rfl;have j01:=b1.cell 1 rfl;have hd1:=hdW.mono (a0c.mono _) (a0p hE1);have hm1:=hmW.mono (a0c.mono _) (a0p hE1);have hX1:=hXW.ext hE1;have hmn:NC (mk X w1) (.slice ao m.length c) (nv m):=⟨ao,c,m,rfl,hmc,hcm.out,hm1⟩;have hdn:NC (mk X w1) (.slice bo d.length e) (nv d):=⟨bo,e,d,rfl,hdc,hcd.out,hd1⟩;clear k00 k01 k02;go_wp2_with fail
   refine(a1X X _ _ _ _ hd1 (by omega)).mono ?_;rintro e' w2 ⟨rfl,rfl⟩;rw[hl'.out];go_wp2_with fail
   refine(b2D X _ _ _ hdn (by rw[<-hln.out];omega)).mono ?_;rintro e' w3 ⟨rfl,rfl⟩;by_cases h1:nv d=1
   ·have hf2:Hid (a1r s m d=false):=hid (by
     have h5:d.length≠0:=by rw[hln.out,h1,a3w];decide
     rw[hf.out,h1,decide_eq_false h5];simp)
    rw[decide_eq_true h1];clear h1 hf;go_wp2_with fail
    go_ret
    exact⟨hE.trans hE1,a0j hf2.out.symm⟩
   ·rw[decide_eq_false h1]
    by_cases h0:d.length=0
    ·have hf2:Hid (a1r s m d=true):=hid (by rw[hf.out,decide_eq_true h0];rfl)
     have hdI:((d.length:Int)==0)=true:=by rw[h0];rfl
     clear h0 h1 hf;go_wp2_with fail
     go_ret
     exact⟨hE.trans hE1,a0j hf2.out.symm⟩
    ·have hdI:((d.length:Int)==0)=false:=a2X (by omega)
     by_cases hm0:m.length=0
     ·have hf2:Hid (a1r s m d=false):=hid (by rw[hf.out,decide_eq_false h0,decide_eq_false (by omega)];rfl)
      have hmI:¬((0:Int)<(m.length:Int)):=by omega
      clear h0 h1 hf hm0;go_wp2_with fail
      go_ret
      exact⟨hE.trans hE1,a0j hf2.out.symm⟩
     ·have hmI:(0:Int)<(m.length:Int):=by omega
      have hf2:Hid (a1r s m d=decide (Nat.gcd (nv m) (nv d)=1)):=hid (by
       rw[hf.out,decide_eq_false h0,decide_eq_true (by omega),Bool.eq_iff_iff];simp[h1])
      have hgl:Hid (lg (Nat.gcd (nv m) (nv d))<=1099511627776):=hid (by
       have h2:Nat.gcd (nv m) (nv d)<=nv d:=Nat.gcd_le_right _ (by
        rcases Nat.eq_zero_or_pos (nv d)with h3|h3
        ·exfalso;apply h0;rw[hln.out,h3];rfl
        ·exact h3)
       refine Nat.le_trans (a1h h2) ?_;rw[<-hln.out];omega)
      clear h0 h1 hf hm0;go_wp2_with fail
      refine(b5A X _ _ _ _ _ hX1 (hmn.nv (by rw[<-hln'.out];omega)) (hdn.nv (by rw[<-hln.out];omega)) (by rw[<-hln'.out];omega) (by rw[<-hln.out];omega)).mono ?_;rintro e7 w7 ⟨hE7,u7,rfl,hu7⟩;clear j01 j02;go_wp2_with fail
      refine(b2D X _ _ _ hu7 hgl.out).mono ?_;rintro e' w3 ⟨rfl,rfl⟩;rw[<-hf2.out];go_wp2_with fail
      go_ret
      exact⟨hE.trans (hE1.trans hE7),rfl⟩
theorem _root_.Go.Rep.NC.zc {h:Mem} {ao:Option Addr} {n c k:Nat} (hu:NC h (.slice ao n c) k):ZC h (.agg #[.bool false, .slice ao n c]) (k:Int):=by
 obtain⟨_,_,l,heq,b1,b2,b3⟩:=hu;simp only[Value.slice.injEq]at heq;obtain⟨rfl,rfl,rfl⟩:=heq;exact⟨_,_,_,l,rfl,b1,⟨(decide_eq_false (by omega)).symm,by rw[Int.natAbs_natCast];exact b2⟩,b3⟩
set_option maxRecDepth 100000 in
theorem a3k (X:Nat->Bool) (w:World) (u:Value) (q:Rat) (hX:HX X w) (hu:QV (mk X w) u q):Calls Tryz.prog 117 #[u] w (a1Z X w QC q):=by
 have hlx:=hid hu.hq;obtain⟨s,ao,c,m,bo,e,d,rfl,h1,h2,h3,h4,h5,h6,h7,h8,rfl⟩:=hu;obtain⟨W,hW,hE,b0,b1,hz⟩:=a1O w #[.bool s, .slice ao m.length c, .slice bo d.length e] #[.bool false, .slice none 0 0, .slice none 0 0] 32 32;have hXW:HX (a0g X w.heap.size 2) W:=hX.boxes hz;have hs1:Sl (a0c .u32) 1 (mk (a0g X w.heap.size 2) W) ao m:=h7.mono (a0c.mono _) (a0q hE);have hs2:Sl (a0c .u32) 1 (mk (a0g X w.heap.size 2) W) bo d:=h8.mono (a0c.mono _) (a0q hE);obtain⟨b,hb⟩:∃b,w.heap.size=b:=⟨_,rfl⟩;have hbw:w.heap.size<=b:=by omega
 rw[hb]at b0 b1 hz hs1 hs2 hXW;have c0:=b0.cell 0 rfl;have c1:=b0.cell 1 rfl;have c2:=b0.cell 2 rfl;cases hv:a1r s m d
 ·have hz0:=hid (a3v hv)
  have hv':=hid hv;clear hv hlx;go_enter Tryz.func117,Tryz.ntmps117
  go_wp2_with fail
  refine(b0T (a0g X b 2) W s ao bo c e m d hXW hs1 hs2 h5 h6 h3 h4 h1 h2).mono ?_;rintro e1 w1 ⟨hE1,rfl⟩;rw[hv'.out];have b1':=b1.ext0 hE1;clear c0 c1 c2;go_wp2_with ((with_reducible show wpList _ _ _ (⟨_, .store _ _ _,_,_,_,_⟩::_) _ _);refine a0b a0u rfl rfl b1' rfl rfl (a2B _ _ _ _ _ _ _) ?_;intro w2 b2 hE2)
  exact bodyPost_ret (a0f rfl rfl a0u b2 rfl) rfl ⟨ExtX.box (hE.trans hE1) hE2 (by omega),_,rfl,by rw[hz0.out];exact QC.zero _⟩
 ·have hv':=hid hv
  have hcq:=a5r.of_valid h3 h4 hv;have hx:QC (mk (a0g X b 2) W) (.agg #[.bool s, .slice ao m.length c, .slice bo d.length e]) (b0s s m d):=⟨s,ao,c,m,bo,e,d,rfl,h1,h2,hcq,hs1,hs2⟩;obtain⟨q,hq⟩:∃q,b0s s m d=q:=⟨_,rfl⟩;rw[hq]at hx hlx |-;clear hv hcq hq;go_enter Tryz.func117,Tryz.ntmps117
  go_wp2_with fail
  refine(b0T (a0g X b 2) W s ao bo c e m d hXW hs1 hs2 h5 h6 h3 h4 h1 h2).mono ?_;rintro e1 w7 ⟨hE1,rfl⟩;rw[hv'.out];have r1:=b0.ext0 hE1;have bb3:=b1.ext0 hE1;have hE7:=hE.trans hE1;have hx7:=mkx QC.mono hx hE1;have hX7:=hXW.ext hE1;clear c0 c1 c2;obtain⟨hxz,hxm,hxdn⟩:=hx7.num;have hEd:Ext w7 w7.drew:=(ExtX.refl w7).drew;have hXd:HX (a0g X b 2) w7.drew:=hX7;have hxzd:ZC (mk (a0g X b 2) w7.drew) (.agg #[.bool s, .slice ao m.length c]) q.num:=hxz;have hxdd:NC (mk (a0g X b 2) w7.drew) (.slice bo d.length e) (dn q):=hxdn;have bxn:lg q.num.natAbs<=549755813888:=Nat.le_trans (Nat.le_trans (a0E q) hlx.out) (by omega);have bxd:lg (dn q)<=549755813888:=Nat.le_trans (Nat.le_trans (b0A q) hlx.out) (by omega);have hxv:=hxzd.zv bxn;have k00:=r1.cell 0 rfl;have k01:=r1.cell 1 rfl;have k02:=r1.cell 2 rfl;have hS:Hid (∀W',Ext w7.drew W'->W'.cell? ⟨b,0,none⟩=some (.bool s)/\W'.cell? ⟨b,1,none⟩=some (.slice ao m.length c)/\W'.cell? ⟨b,2,none⟩=some (.slice bo d.length e)):=
   hid fun W' h=>⟨(r1.ext0 (hEd.trans h)).cell 0 rfl,(r1.ext0 (hEd.trans h)).cell 1 rfl,(r1.ext0 (hEd.trans h)).cell 2 rfl⟩
  go_wp2_with fail
  go_region_held3 (fun w'=>w'.cell? ⟨b,0,none⟩=some (.bool s)/\w'.cell? ⟨b,1,none⟩=some (.slice ao m.length c)/\w'.cell? ⟨b,2,none⟩=some (.slice bo d.length e))
   (first|exact hS.out _ t1|exact hS.out _ t2|exact⟨((r1.ext0 (hEd.trans t2)).ext (bb2.set3 _ _ _).2 (a0d (by omega))).cell 0 rfl,((r1.ext0 (hEd.trans t2)).ext (bb2.set3 _ _ _).2 (a0d (by omega))).cell 1 rfl,((r1.ext0 (hEd.trans t2)).ext (bb2.set3 _ _ _).2 (a0d (by omega))).cell 2 rfl⟩|go_keep)
   (first|(go_at_call 183;(with_reducible refine(a3z (a0g X b 2) w7.drew _ _ hXd hxv).mono ?_);rintro ee w8 ⟨t1,u8,rfl,s8,a8,c8,l8,rfl,h81,h82,h83⟩;have hX8:=HX.ext hXd t1;have hm8:=(mkx NC.mono hxdd t1).nv (Nat.le_trans bxd (by decide)))|(go_at_call 184;(with_reducible refine(a3y hX8 hm8).mono ?_);rintro ee w9 ⟨hE9,u9,rfl,a9,c9,l9,rfl,h91,h92,h93⟩;have t2:=t1.trans hE9;have hh8:=Sl.mono (a0c.mono _) (a0p hE9) h83;have bb2:=bb3.ext0 (hEd.trans t2);have g0:=bb2.cell 0 rfl;have g1:=bb2.cell 1 rfl;have g2:=bb2.cell 2 rfl;have f0:=bb2.frozen 0;have f1:=bb2.frozen 1;have f2:=bb2.frozen 2))
  obtain⟨q1,q2⟩:=bb2.set3 (.bool s8) (.slice a8 l8.length c8) (.slice a9 l9.length c9);have hz:ZC (mk (a0g X b 2) w9) (.agg #[.bool s8, .slice a8 l8.length c8]) q.num:=⟨s8,a8,c8,l8,rfl,h81,h82,hh8⟩;have hd:NC (mk (a0g X b 2) w9) (.slice a9 l9.length c9) (dn q):=⟨a9,c9,l9,rfl,h91,h92,h93⟩;have h7:=QC.mono _ _ _ _ a0k (QC.mono _ _ _ _ (a0h q2 (by omega) (by omega)) (QC.of hz hd));have hEf:Ext w _:=ExtX.box (hE7.trans (hEd.trans t2)) q2 (by omega);clear g0 g1 g2 f0 f1 f2 k00 k01 k02 hS;go_wp2_with fail
  exact bodyPost_ret (a0f rfl rfl a0u q1 rfl) rfl ⟨hEf,_,rfl,h7⟩
set_option maxRecDepth 100000 in
theorem a7A (X:Nat->Bool) (w:World) (u:Value) (q:Rat) (hX:HX X w) (hu:QC (mk X w) u q) (hq:hq q<=549755813888):Calls Tryz.prog 125 #[u] w (a1Z X w ZC (q.den:Int)):=by
 obtain⟨s,ao,n,c,bo,k,e,rfl⟩:=hu.shape;obtain⟨W,hW,hE,b0,b1,hz⟩:=a1O w #[.bool s, .slice ao n c, .slice bo k e] #[.bool false, .slice none 0 0] 32 30;have hXW:HX (a0g X w.heap.size 2) W:=hX.boxes hz;have hd:=NC.mono _ _ _ _ (a0q (nb:=2) hE) hu.num.2.2;have hl:=hd.len0;rw[a3A]at hl;obtain⟨b,hb⟩:∃b,w.heap.size=b:=⟨_,rfl⟩;have hbw:w.heap.size<=b:=by omega
 rw[hb]at b0 b1 hz hXW hd;have k02:=b0.cell 2 rfl;have hdv:=hid (hd.nv (Nat.le_trans (Nat.le_trans (b0A q) hq) (by decide)));by_cases h0:k=0
 ·have hf:=hid (hl.1 h0)
  subst h0;have hE3:Ext W (W.alloc (.cells #[.int .u32 ((1:Nat):Int)] 118)):=(ExtX.refl W).alloc _;have hn1:=NC.lit hXW 1 118 (by omega) (by omega);have bb1:=b1.ext0 hE3;rw[show W.heap.size=b+2 by omega]at hn1;clear hl hd hdv hu;go_enter Tryz.func125,Tryz.ntmps125
  go_wp2_with ((with_reducible show wpList _ _ _ (⟨_, .store _ _ _,_,_,_,_⟩::_) _ _);refine a0b a0G rfl rfl bb1 rfl rfl (a2G _ _ _ _) ?_;intro w7 r1 r2)
  have h7:=NC.mono _ _ _ _ a0k (NC.mono _ _ _ _ (a0h r2 (by omega) (by omega)) hn1);exact bodyPost_ret (a0f rfl rfl a0G r1 rfl) rfl ⟨ExtX.box (hE.trans hE3) r2 (by omega),_,rfl,by rw[hf.out];exact NC.zc h7⟩
 ·have hf:Hid (dn q=q.den):=hid (by unfold dn;rw[if_neg (fun h=>h0 (hl.2 h))])
  have hI:((k:Int)==0)=false:=a2X (by omega);clear hl h0 hu hd;go_enter Tryz.func125,Tryz.ntmps125
  go_wp2_with fail
  refine(a3y hXW hdv.out).mono ?_;rintro ee w5 ⟨hE5,u5,rfl,hu5⟩;rw[hf.out]at hu5;obtain⟨a5,c5,l5,rfl,h51,h52,h53⟩:=hu5;have bb1:=b1.ext0 hE5;clear k02;go_wp2_with ((with_reducible show wpList _ _ _ (⟨_, .store _ _ _,_,_,_,_⟩::_) _ _);refine a0b a0G rfl rfl bb1 rfl rfl (a2G _ _ _ _) ?_;intro w7 r1 r2)
  have h7:=NC.mono _ _ _ _ a0k (NC.mono _ _ _ _ (a0h r2 (by omega) (by omega)) ⟨a5,c5,l5,rfl,h51,h52,h53⟩);exact bodyPost_ret (a0f rfl rfl a0G r1 rfl) rfl ⟨ExtX.box (hE.trans hE5) r2 (by omega),_,rfl,NC.zc h7⟩
theorem a0L {α:Type} (l:List α) (i:Nat) (h:i<l.length):l.take i++[l[i]]=l.take (i+1):=by
 rw[List.take_add_one,List.getElem?_eq_getElem h];rfl
theorem a0Y {α:Type} {l:List α} {i:Nat} (h:i<=l.length):(l.take i).length=i:=by simp;omega
set_option maxRecDepth 100000 in
theorem a9J (X:Nat->Bool) (w:World) (u:Value) (l:List Rat) (hX:HX X w) (hu:RV (mk X w) u l) (hl:l.length<=1000000):Calls Tryz.prog 203 #[u] w (a1Z X w RC l):=by
 obtain⟨ao,ca,rfl,hca,hsa⟩:=hu;have hha:=hsa.hd;go_enter Tryz.func203,Tryz.ntmps203
 go_wp2_with fail
 go_loopw [3,4] (fun o c wr=>∃(i:Nat) (oo:Option Addr) (co:Nat),c= .int .i64 i/\o= .slice oo i co/\i<=l.length/\OL QC 3 X w.heap.size 32 wr oo co (l.take i)/\Ext w wr) (fun _ c _=>l.length - (intOf c).toNat)
 case atStart=>exact⟨0,none,0,rfl,rfl,Nat.zero_le _,OL.nil _ _ _ _ _ _,ExtX.refl _⟩
 case round=>
  obtain⟨i,oo,co,rfl,rfl,hi,hO,hE⟩:=hrel;have hXr:HX X wr:=hX.ext hE;have hXu:HX (un X oo) wr:=hO.unX hXr;have hbase:=hE.size;by_cases hlt:i<l.length
  ·have hsr:Sl QV 3 (mk (un X oo) wr) ao l:=hsa.old QV.mono hE (fun j hj=>hO.ob_lt hj)
   have htk:=hid (a0L l i hlt);have hln:=hid (a0Y hi);go_wp2_with (first|(with_reducible refine a1N a0A (by omega) (by assumption) ?_)|((with_reducible show wpList _ _ _ (⟨_, .load _ _,_,_,_,_⟩::_) _ _);refine a0J a0u i hsr hlt rfl (by simp) QV.agg ?_;intro u5 hu5;obtain⟨s5,a5,n5,c5,d5,k5,e5,rfl⟩:=hu5.shape))
   refine(a3k (un X oo) wr _ _ hXu hu5).mono ?_;rintro e w6 ⟨hE6,u6,rfl,hu6⟩;obtain⟨s6,a6,n6,c6,d6,k6,e6,rfl⟩:=hu6.shape;have hO6:=hO.ext0 QC.elem hE6;have hb6:=hE6.size;go_wp2_with (at_builtin;refine a0x (l:=l.take i) a0A rfl QC.elem (by omega) (hXr.ext hE6) i hln.out rfl rfl hO6 (.agg #[.bool s6, .slice a6 n6 c6, .slice d6 k6 e6]) l[i] rfl hu6 (by omega) (by omega) ?_;intro oo2 co2 w7 hO7 hE7 hor)
   have hE8:=(hE.trans hE6).own hO6 (Nat.le_refl _) hE7;rw[htk.out]at hO7;go_roundw
   case rel=>exact⟨i+1,oo2,co2,by go_num,by go_num,by omega,hO7,hE8⟩
   case measure=>simp[intOf];omega
  ·have hil:i=l.length:=by omega
   subst hil;rw[List.take_length]at hO;have hc:=hO.lenCap;have hs:=hO.sl QC.elem;go_wp2_with fail
   go_ret
   exact⟨hE,_,rfl,oo,co,rfl,hc,hs⟩
end Go.Proofs.YtkddecjkfdogiaaGreat
namespace Go.Lin
open Go.Lim
end Go.Lin
namespace Go.Proofs.YtkddecjkfdogiaaGreat
open Go.RowKit Go.Rep Go.Lim Go.Lin
end Go.Proofs.YtkddecjkfdogiaaGreat
namespace Go.Lin
open Go.Lim
end Go.Lin
namespace Go.Proofs.YtkddecjkfdogiaaGreat
open Go.RowKit Go.Rep Go.Lim
theorem a9c (z k:Int) (hk:0<k):((z:Rat)/(k:Rat)).num=z/(Nat.gcd z.natAbs k.natAbs:Nat)/\(((z:Rat)/(k:Rat)).den:Int)=k/(Nat.gcd z.natAbs k.natAbs:Nat):=by
 have h:=b3B z k hk;have hk0:k.natAbs≠0:=by omega
 rw[<-h,Rat.num_mkRat,Rat.den_mkRat];rw[if_neg hk0,if_neg hk0,Nat.gcd_comm k.natAbs];refine⟨rfl,?_⟩;rw[Int.natCast_ediv]
 congr 1
 omega
set_option maxRecDepth 100000 in
set_option maxHeartbeats 1600000 in
theorem a9d (X:Nat->Bool) (w:World) (u v:Value) (x y:Int) (hX:HX X w) (hu:ZC (mk X w) u x) (hv:ZC (mk X w) v y) (hx:lg x.natAbs<=274877906944) (hy:lg y.natAbs<=274877906944) (hy0:y≠0):Calls Tryz.prog 122 #[u,v] w (a1Z X w QC ((x:Rat)/(y:Rat))):=by
 have hlx:=hid hx;have hly:=hid hy;obtain⟨s1,a1,n1,c1,rfl⟩:=hu.shape;obtain⟨s2,a2,n2,c2,rfl⟩:=hv.shape;obtain⟨W,hW,hE,b0,b1,b2,hz⟩:=a2v w #[.bool s1, .slice a1 n1 c1] #[.bool s2, .slice a2 n2 c2] #[.bool false, .slice none 0 0, .slice none 0 0] 30 30 32;have hXW:HX (a0g X w.heap.size 3) W:=hX.boxes hz;have hu1:=ZC.mono _ _ _ _ (a0q (nb:=3) hE) hu;have hv1:=ZC.mono _ _ _ _ (a0q (nb:=3) hE) hv;obtain⟨b,hb⟩:∃b,w.heap.size=b:=⟨_,rfl⟩;have hbw:w.heap.size<=b:=by omega
 rw[hb]at b0 b1 b2 hz hXW hu1 hv1;have hvz:=hv1.zv (Nat.le_trans hy (by decide));have huz:=hu1.zv (Nat.le_trans hx (by decide));have k00:=b0.cell 0 rfl;have k01:=b0.cell 1 rfl;have k10:=b1.cell 0 rfl;have k11:=b1.cell 1 rfl;have h0:0<y\/y<0:=by omega
 obtain⟨q,hq'⟩:∃q:Rat,(x:Rat)/(y:Rat)=q:=⟨_,rfl⟩;rw[hq'];clear hu hv hx hy;go_enter Tryz.func122,Tryz.ntmps122
 go_wp2_with fail
 refine(b3s (a0g X b 3) W _ _ hXW hvz).mono ?_;rintro e w5 ⟨hE5,rfl⟩;have bb0:=b0.ext0 hE5;have bb1:=b1.ext0 hE5;have bb2:=b2.ext0 hE5;clear k00 k01 k10 k11;rcases h0 with h0|h0
 ·have hI2:decide (y.sign<0)=false:=by rw[Int.sign_eq_one_of_pos h0];rfl
  have hk:Hid (0<y):=hid h0;generalize y.sign=sgy at*;have hzn:=mkx ZC.mono hu1 hE5;have hzd:=mkx ZC.mono hv1 hE5;have hXs:=hXW.ext hE5;have hEs:=hE.trans hE5;clear h0 hy0;generalize hsz:s1=sz at*;generalize haz:a1=az at*;generalize hnz:n1=nz at*;generalize hcz:c1=cz at*;generalize hsk:s2=sk at*;generalize hak:a2=ak at*;generalize hnk:n2=nk at*;generalize hck:c2=ck at*;generalize hwz:w5=ws at*;generalize hxz:x=z at*;generalize hyk:y=k at*;have bz0:=bb0;have bz1:=bb1;have bz2:=bb2;have bzn:=hlx;have bzk:=hly;have hres:=hid hq';clear hq';have k00:=bz0.cell 0 rfl;have k01:=bz0.cell 1 rfl;have k10:=bz1.cell 0 rfl;have k11:=bz1.cell 1 rfl;have hgp:=hid (Nat.gcd_pos_of_pos_right z.natAbs (show 0<k.natAbs by have:=hk.out;omega));have hgz:=hid (show((Nat.gcd z.natAbs k.natAbs:Nat):Int)∣z from Int.ofNat_dvd_left.2 (Nat.gcd_dvd_left _ _));have hgk:=hid (show((Nat.gcd z.natAbs k.natAbs:Nat):Int)∣k from Int.ofNat_dvd_left.2 (Nat.gcd_dvd_right _ _));have hgl:=hid (show lg (Nat.gcd z.natAbs k.natAbs)<=274877906944 from Nat.le_trans (a1h (Nat.gcd_le_right _ (by have:=hk.out;omega))) bzk.out);have hlow:=hid (a9c z k hk.out);obtain⟨g,hg⟩:∃g,Nat.gcd z.natAbs k.natAbs=g:=⟨_,rfl⟩;rw[hg]at hgp hgz hgk hgl hlow
  replace hg:=hid hg
  go_wp2_with fail
  refine(b5E (a0g X b 3) ws _ _ _ _ hXs (hzn.zv (Nat.le_trans bzn.out (by decide))) (hzd.zv (Nat.le_trans bzk.out (by decide))) bzn.out bzk.out).mono ?_;rintro e6 w6 ⟨hE6,ug,rfl,hug⟩;rw[hg.out]at hug;obtain⟨ag,cg,lgd,rfl,g1,g2,g3⟩:=hug;have bg:=Bx.new w6 #[.bool false, .slice none 0 0] 30;have hXg:=hXs.ext hE6;clear k00 k01 k10 k11;go_wp2_with ((with_reducible show wpList _ _ _ (⟨_, .store _ _ _,_,_,_,_⟩::_) _ _);refine a0b a0G rfl rfl bg rfl rfl (a2G _ _ _ _) ?_;intro w7 r1 r2;have hE7:Ext w6 w7:=ExtX.box ((ExtX.refl w6).alloc _) r2 (Nat.le_refl _);have t7:=hE6.trans hE7;have k00:=(bz0.ext0 t7).cell 0 rfl;have k01:=(bz0.ext0 t7).cell 1 rfl;have k50:=r1.cell 0 rfl;have k51:=r1.cell 1 rfl)
  have hX7:=(hXg.ext hE7);have hug7:ZC (mk (a0g X b 3) w7) (.agg #[.bool false, .slice ag lgd.length cg]) (g:Int):=NC.zc (NC.mono _ _ _ _ (a0p hE7) ⟨ag,cg,lgd,rfl,g1,g2,g3⟩);have hz7:=mkx ZC.mono hzn t7;have hgl2:Hid (lg ((g:Int)).natAbs<=274877906944):=hid (by rw[Int.natAbs_natCast];exact hgl.out);have hgpI:Hid ((0:Int)<(g:Int)):=hid (by have:=hgp.out;omega);refine(b2i (a0g X b 3) w7 _ _ z g hX7 (hz7.zv (Nat.le_trans bzn.out (by decide))) (hug7.zv (Nat.le_trans hgl2.out (by decide))) bzn.out hgl2.out hgpI.out hgz.out).mono ?_;rintro e8 w8 ⟨hE8,up,sv,av,nv,cv,rfl,hup⟩;obtain⟨sp,ap,np,cp,rfl⟩:=hup.shape;obtain⟨W8,hW8,hEb8,bp,br,hz8⟩:=a1O w8 #[.bool false, .slice none 0 0] #[.bool false, .slice none 0 0] 30 30;subst hW8;clear k00 k01 k50 k51;go_wp2_with ((with_reducible show wpList _ _ _ (⟨_, .store _ _ _,_,_,_,_⟩::_) _ _);first|(refine a0b a0G rfl rfl bp rfl rfl (a2G _ _ _ _) ?_;intro w9 p1 p2;have br':=br.ext p2 (a0d (by omega)))|(refine a0b a0G rfl rfl br' rfl rfl (a2G _ _ _ _) ?_;intro w10 p3 p4;have hE10:Ext w8 w10:=ExtX.box (ExtX.box hEb8 p2 (Nat.le_refl _)) p4 (by omega);have t10:=t7.trans (hE8.trans hE10);have k10:=(bz1.ext0 t10).cell 0 rfl;have k11:=(bz1.ext0 t10).cell 1 rfl;have r10:=r1.ext0 (hE8.trans hE10);have k50:=r10.cell 0 rfl;have k51:=r10.cell 1 rfl;have p10:=p1.ext p4 (a0d (by omega))))
  have hup10:=mkx ZC.mono hup hE10;have hX10:=(hX7.ext hE8).ext hE10;have hk10:=mkx ZC.mono hzd t10;have hug10:=mkx ZC.mono (mkx ZC.mono hug7 hE8) hE10;refine(b2i (a0g X b 3) w10 _ _ k g hX10 (hk10.zv (Nat.le_trans bzk.out (by decide))) (hug10.zv (Nat.le_trans hgl2.out (by decide))) bzk.out hgl2.out hgpI.out hgk.out).mono ?_;rintro e11 w11 ⟨hE11,uq,sv2,av2,nv2,cv2,rfl,huq⟩;obtain⟨sq,aq,nq,cq,rfl⟩:=huq.shape;obtain⟨W11,hW11,hEb11,bq,br2,hz11⟩:=a1O w11 #[.bool false, .slice none 0 0] #[.bool false, .slice none 0 0] 30 30;subst hW11;clear k10 k11 k50 k51 br' br;go_wp2_with ((with_reducible show wpList _ _ _ (⟨_, .store _ _ _,_,_,_,_⟩::_) _ _);first|(refine a0b a0G rfl rfl bq rfl rfl (a2G _ _ _ _) ?_;intro w12 p5 p6;have br':=br2.ext p6 (a0d (by omega)))|(refine a0b a0G rfl rfl br' rfl rfl (a2G _ _ _ _) ?_;intro w13 p7 p8;have hE13:Ext w11 w13:=ExtX.box (ExtX.box hEb11 p6 (Nat.le_refl _)) p8 (by omega);have t13:=t10.trans (hE11.trans hE13);have q13:=p5.ext p8 (a0d (by omega));have k90:=q13.cell 0 rfl;have k91:=q13.cell 1 rfl;have f90:=q13.frozen 0;have f91:=q13.frozen 1;have p13:=p10.ext0 (hE11.trans hE13);have k60:=p13.cell 0 rfl;have k61:=p13.cell 1 rfl))
  have huq13:=mkx ZC.mono huq hE13;have hup13:=mkx ZC.mono (mkx ZC.mono hup10 hE11) hE13;have hmq:=huq13.mag;have hkq:Hid (lg (k/(g:Int)).natAbs<=1099511627776):=hid (by
   have h1:=hlow.out.2;have:(k/(g:Int)).natAbs<=k.natAbs:=by
    have:=Int.natAbs_ediv_le_natAbs k (g:Int);exact this
   exact Nat.le_trans (a1h this) (Nat.le_trans bzk.out (by decide)))
  have bz13:=bz2.ext0 t13;have hEs13:=hEs.trans t13;refine(b2D _ _ _ _ hmq hkq.out).mono ?_;rintro e14 w14 ⟨rfl,rfl⟩;have hkg:Hid ((q.den:Int)=k/(g:Int)):=hid (by rw[<-hres.out];exact hlow.out.2);have hzg:Hid (q.num=z/(g:Int)):=hid (by rw[<-hres.out];exact hlow.out.1);by_cases h1:(k/(g:Int)).natAbs=1
  ·have hd1:Hid (dn q=0):=hid ((a3A q).2 (by have:=hkg.out;have:=q.den_pos;omega))
   rw[decide_eq_true h1];clear h1;go_upto_region 8 with(fail)
   obtain⟨m1,m2⟩:=a1i q13 (.slice none 0 0) (i:=1) (by simp);obtain⟨w14,hw14⟩:∃w14,w13.setCell ⟨w11.heap.size,1,none⟩ (.slice none 0 0)=w14:=⟨_,rfl⟩;rw[hw14]at m1 m2 |-;have hE14:Ext w11 w14:=ExtX.box hE13 m2 (Nat.le_refl _);have t14:=t10.trans (hE11.trans hE14);have bz14:=bz2.ext0 t14;have p14:=p10.ext0 (hE11.trans hE14);clear k60 k61 k90 k91 f90 f91;have k60:w14.cell? ⟨w8.heap.size,0,none⟩=some (.bool sp):=p14.cell 0 rfl;have k61:w14.cell? ⟨w8.heap.size,1,none⟩=some (.slice ap np cp):=p14.cell 1 rfl;have k91:w14.cell? ⟨w11.heap.size,1,none⟩=some (.slice none 0 0):=m1.cell 1 rfl;have hup14:=mkx ZC.mono (mkx ZC.mono hup10 hE11) hE14;go_wp2_with ((with_reducible show wpList _ _ _ (⟨_, .store _ _ _,_,_,_,_⟩::_) _ _);refine a0b a0u rfl rfl bz14 rfl rfl (a2B _ _ _ _ _ _ _) ?_;intro w15 r3 r4)
   have hfz:ZC (mk (a0g X b 3) w14) (.agg #[.bool sp, .slice ap np cp]) q.num:=by rw[hzg.out];exact hup14
   have hfd:NC (mk (a0g X b 3) w14) (.slice none 0 0) (dn q):=by rw[hd1.out];exact NC.zero _
   have h7:=QC.mono _ _ _ _ a0k (QC.mono _ _ _ _ (a0h r4 (by omega) (by omega)) (QC.of hfz hfd));exact bodyPost_ret (a0f rfl rfl a0u r3 rfl) rfl ⟨ExtX.box (hEs.trans t14) r4 (by omega),_,rfl,h7⟩
  ·have hd1:Hid (dn q=(k/(g:Int)).natAbs):=hid (by
    have h2:=hkg.out;unfold dn;rw[if_neg (by omega)];omega)
   rw[decide_eq_false h1];clear h1;go_wp2_with ((with_reducible show wpList _ _ _ (⟨_, .store _ _ _,_,_,_,_⟩::_) _ _);refine a0b a0u rfl rfl bz13 rfl rfl (a2B _ _ _ _ _ _ _) ?_;intro w15 r3 r4)
   have hfz:ZC (mk (a0g X b 3) w13) (.agg #[.bool sp, .slice ap np cp]) q.num:=by rw[hzg.out];exact hup13
   have hfd:NC (mk (a0g X b 3) w13) (.slice aq nq cq) (dn q):=by rw[hd1.out];exact hmq
   have h7:=QC.mono _ _ _ _ a0k (QC.mono _ _ _ _ (a0h r4 (by omega) (by omega)) (QC.of hfz hfd));exact bodyPost_ret (a0f rfl rfl a0u r3 rfl) rfl ⟨ExtX.box hEs13 r4 (by omega),_,rfl,h7⟩
 ·have hI2:decide (y.sign<0)=true:=by rw[Int.sign_eq_neg_one_of_neg h0];rfl
  have hkn:Hid (0< -y):=hid (by omega);generalize y.sign=sgy at*;have hEd:Ext w5 w5.drew:=(ExtX.refl w5).drew;have hXd:HX (a0g X b 3) w5.drew:=HX.ext (HX.ext hXW hE5) hEd;have hud:ZV (mk (a0g X b 3) w5.drew) (.agg #[.bool s1, .slice a1 n1 c1]) x:=mkx ZV.mono huz (hE5.trans hEd);have hvd:ZV (mk (a0g X b 3) w5.drew) (.agg #[.bool s2, .slice a2 n2 c2]) y:=mkx ZV.mono hvz (hE5.trans hEd);have k00:=bb0.cell 0 rfl;have k01:=bb0.cell 1 rfl;have k10:=bb1.cell 0 rfl;have k11:=bb1.cell 1 rfl;have hres0:Hid (((-x:Int):Rat)/((-y:Int):Rat)=q):=hid (by
   rw[<-hq',Rat.intCast_neg,Rat.intCast_neg];have:(y:Rat)≠0:=by exact_mod_cast hy0
   grind)
  have bzn:Hid (lg (-x).natAbs<=274877906944):=hid (by rw[Int.natAbs_neg];exact hlx.out);have bzk:Hid (lg (-y).natAbs<=274877906944):=hid (by rw[Int.natAbs_neg];exact hly.out);clear h0 hy0 hq';go_upto_region 2 with(fail)
  go_region_with (first|(go_at_call 188;(with_reducible refine(b4f (a0g X b 3) w5.drew _ x hXd hud).mono ?_);rintro e w6 ⟨hE6,u6,rfl,s5,a5,c5,l5,rfl,h51,h52,h53⟩;have b60:=bb0.ext0 (hEd.trans hE6);have b61:=bb1.ext0 (hEd.trans hE6);have e00:=b60.cell 0 rfl;have e01:=b60.cell 1 rfl;have e10:=b61.cell 0 rfl;have e11:=b61.cell 1 rfl)|(go_at_call 188;(with_reducible refine(b4f (a0g X b 3) w6 _ y (HX.ext hXd hE6) (mkx ZV.mono hvd hE6)).mono ?_);rintro e w7 ⟨hE7,u7,rfl,s6,a6,c6,l6,rfl,h61,h62,h63⟩;have b70:=b60.ext0 hE7;have b71:=b61.ext0 hE7;have g00:=b70.cell 0 rfl;have g01:=b70.cell 1 rfl;have g10:=b71.cell 0 rfl;have g11:=b71.cell 1 rfl;have fr0:=b70.frozen 0;have fr1:=b70.frozen 1;have fr2:=b71.frozen 0;have fr3:=b71.frozen 1))
  all_goals
   obtain⟨ws,hwf,bz0,bz1,qq2,hEs,q4⟩:=a2z (X:=X) (nb:=3) b70 b71 (hE.trans (hE5.trans ((hEd.trans hE6).trans hE7))) hbw (by omega) (.bool s5) (.slice a5 l5.length c5) (.bool s6) (.slice a6 l6.length c6);rw[hwf];have hzn:ZC (mk (a0g X b 3) ws) (.agg #[.bool s5, .slice a5 l5.length c5]) (-x):=⟨s5,a5,c5,l5,rfl,h51,h52,(h53.mono (a0c.mono _) (a0p hE7)).mono (a0c.mono _) q4⟩;have hzd:ZC (mk (a0g X b 3) ws) (.agg #[.bool s6, .slice a6 l6.length c6]) (-y):=⟨s6,a6,c6,l6,rfl,h61,h62,h63.mono (a0c.mono _) q4⟩;have bz2:=qq2 (b+1+1) _ _ (by omega) (by omega) (((bb2.ext0 hEd).ext0 hE6).ext0 hE7);have hzz:w.heap.size+3<=ws.heap.size:=by have:=bz2.lt;omega
   have hXs:HX (a0g X b 3) ws:=hX.boxes' hEs (by have:=hzz;omega) hzz;clear e00 e01 e10 e11 g00 g01 g10 g11 fr0 fr1 fr2 fr3 k00 k01 k10 k11 hwf b60 b61 b70 b71 h51 h52 h53 h61 h62 h63;have hres:=hres0;have hk:=hkn;generalize hsz:s5=sz at*;generalize haz:a5=az at*;generalize hnz:l5.length=nz at*;generalize hcz:c5=cz at*;generalize hsk:s6=sk at*;generalize hak:a6=ak at*;generalize hnk:l6.length=nk at*;generalize hck:c6=ck at*;generalize hxz: -x=z at*;generalize hyk: -y=k at*;have k00:=bz0.cell 0 rfl;have k01:=bz0.cell 1 rfl;have k10:=bz1.cell 0 rfl;have k11:=bz1.cell 1 rfl;have hgp:=hid (Nat.gcd_pos_of_pos_right z.natAbs (show 0<k.natAbs by have:=hk.out;omega));have hgz:=hid (show((Nat.gcd z.natAbs k.natAbs:Nat):Int)∣z from Int.ofNat_dvd_left.2 (Nat.gcd_dvd_left _ _));have hgk:=hid (show((Nat.gcd z.natAbs k.natAbs:Nat):Int)∣k from Int.ofNat_dvd_left.2 (Nat.gcd_dvd_right _ _));have hgl:=hid (show lg (Nat.gcd z.natAbs k.natAbs)<=274877906944 from Nat.le_trans (a1h (Nat.gcd_le_right _ (by have:=hk.out;omega))) bzk.out);have hlow:=hid (a9c z k hk.out);obtain⟨g,hg⟩:∃g,Nat.gcd z.natAbs k.natAbs=g:=⟨_,rfl⟩;rw[hg]at hgp hgz hgk hgl hlow
   replace hg:=hid hg
   go_wp2_with fail
   refine(b5E (a0g X b 3) ws _ _ _ _ hXs (hzn.zv (Nat.le_trans bzn.out (by decide))) (hzd.zv (Nat.le_trans bzk.out (by decide))) bzn.out bzk.out).mono ?_;rintro e6 w6 ⟨hE6,ug,rfl,hug⟩;rw[hg.out]at hug;obtain⟨ag,cg,lgd,rfl,g1,g2,g3⟩:=hug;have bg:=Bx.new w6 #[.bool false, .slice none 0 0] 30;have hXg:=hXs.ext hE6;clear k00 k01 k10 k11;go_wp2_with ((with_reducible show wpList _ _ _ (⟨_, .store _ _ _,_,_,_,_⟩::_) _ _);refine a0b a0G rfl rfl bg rfl rfl (a2G _ _ _ _) ?_;intro w7 r1 r2;have hE7:Ext w6 w7:=ExtX.box ((ExtX.refl w6).alloc _) r2 (Nat.le_refl _);have t7:=hE6.trans hE7;have k00:=(bz0.ext0 t7).cell 0 rfl;have k01:=(bz0.ext0 t7).cell 1 rfl;have k50:=r1.cell 0 rfl;have k51:=r1.cell 1 rfl)
   have hX7:=(hXg.ext hE7);have hug7:ZC (mk (a0g X b 3) w7) (.agg #[.bool false, .slice ag lgd.length cg]) (g:Int):=NC.zc (NC.mono _ _ _ _ (a0p hE7) ⟨ag,cg,lgd,rfl,g1,g2,g3⟩);have hz7:=mkx ZC.mono hzn t7;have hgl2:Hid (lg ((g:Int)).natAbs<=274877906944):=hid (by rw[Int.natAbs_natCast];exact hgl.out);have hgpI:Hid ((0:Int)<(g:Int)):=hid (by have:=hgp.out;omega);refine(b2i (a0g X b 3) w7 _ _ z g hX7 (hz7.zv (Nat.le_trans bzn.out (by decide))) (hug7.zv (Nat.le_trans hgl2.out (by decide))) bzn.out hgl2.out hgpI.out hgz.out).mono ?_;rintro e8 w8 ⟨hE8,up,sv,av,nv,cv,rfl,hup⟩;obtain⟨sp,ap,np,cp,rfl⟩:=hup.shape;obtain⟨W8,hW8,hEb8,bp,br,hz8⟩:=a1O w8 #[.bool false, .slice none 0 0] #[.bool false, .slice none 0 0] 30 30;subst hW8;clear k00 k01 k50 k51;go_wp2_with ((with_reducible show wpList _ _ _ (⟨_, .store _ _ _,_,_,_,_⟩::_) _ _);first|(refine a0b a0G rfl rfl bp rfl rfl (a2G _ _ _ _) ?_;intro w9 p1 p2;have br':=br.ext p2 (a0d (by omega)))|(refine a0b a0G rfl rfl br' rfl rfl (a2G _ _ _ _) ?_;intro w10 p3 p4;have hE10:Ext w8 w10:=ExtX.box (ExtX.box hEb8 p2 (Nat.le_refl _)) p4 (by omega);have t10:=t7.trans (hE8.trans hE10);have k10:=(bz1.ext0 t10).cell 0 rfl;have k11:=(bz1.ext0 t10).cell 1 rfl;have r10:=r1.ext0 (hE8.trans hE10);have k50:=r10.cell 0 rfl;have k51:=r10.cell 1 rfl;have p10:=p1.ext p4 (a0d (by omega))))
   have hup10:=mkx ZC.mono hup hE10;have hX10:=(hX7.ext hE8).ext hE10;have hk10:=mkx ZC.mono hzd t10;have hug10:=mkx ZC.mono (mkx ZC.mono hug7 hE8) hE10;refine(b2i (a0g X b 3) w10 _ _ k g hX10 (hk10.zv (Nat.le_trans bzk.out (by decide))) (hug10.zv (Nat.le_trans hgl2.out (by decide))) bzk.out hgl2.out hgpI.out hgk.out).mono ?_;rintro e11 w11 ⟨hE11,uq,sv2,av2,nv2,cv2,rfl,huq⟩;obtain⟨sq,aq,nq,cq,rfl⟩:=huq.shape;obtain⟨W11,hW11,hEb11,bq,br2,hz11⟩:=a1O w11 #[.bool false, .slice none 0 0] #[.bool false, .slice none 0 0] 30 30;subst hW11;clear k10 k11 k50 k51 br' br;go_wp2_with ((with_reducible show wpList _ _ _ (⟨_, .store _ _ _,_,_,_,_⟩::_) _ _);first|(refine a0b a0G rfl rfl bq rfl rfl (a2G _ _ _ _) ?_;intro w12 p5 p6;have br':=br2.ext p6 (a0d (by omega)))|(refine a0b a0G rfl rfl br' rfl rfl (a2G _ _ _ _) ?_;intro w13 p7 p8;have hE13:Ext w11 w13:=ExtX.box (ExtX.box hEb11 p6 (Nat.le_refl _)) p8 (by omega);have t13:=t10.trans (hE11.trans hE13);have q13:=p5.ext p8 (a0d (by omega));have k90:=q13.cell 0 rfl;have k91:=q13.cell 1 rfl;have f90:=q13.frozen 0;have f91:=q13.frozen 1;have p13:=p10.ext0 (hE11.trans hE13);have k60:=p13.cell 0 rfl;have k61:=p13.cell 1 rfl))
   have huq13:=mkx ZC.mono huq hE13;have hup13:=mkx ZC.mono (mkx ZC.mono hup10 hE11) hE13;have hmq:=huq13.mag;have hkq:Hid (lg (k/(g:Int)).natAbs<=1099511627776):=hid (by
    have h1:=hlow.out.2;have:(k/(g:Int)).natAbs<=k.natAbs:=by
     have:=Int.natAbs_ediv_le_natAbs k (g:Int);exact this
    exact Nat.le_trans (a1h this) (Nat.le_trans bzk.out (by decide)))
   have bz13:=bz2.ext0 t13;have hEs13:=hEs.trans t13;refine(b2D _ _ _ _ hmq hkq.out).mono ?_;rintro e14 w14 ⟨rfl,rfl⟩;have hkg:Hid ((q.den:Int)=k/(g:Int)):=hid (by rw[<-hres.out];exact hlow.out.2);have hzg:Hid (q.num=z/(g:Int)):=hid (by rw[<-hres.out];exact hlow.out.1);by_cases h1:(k/(g:Int)).natAbs=1
   ·have hd1:Hid (dn q=0):=hid ((a3A q).2 (by have:=hkg.out;have:=q.den_pos;omega))
    rw[decide_eq_true h1];clear h1;go_upto_region 8 with(fail)
    obtain⟨m1,m2⟩:=a1i q13 (.slice none 0 0) (i:=1) (by simp);obtain⟨w14,hw14⟩:∃w14,w13.setCell ⟨w11.heap.size,1,none⟩ (.slice none 0 0)=w14:=⟨_,rfl⟩;rw[hw14]at m1 m2 |-;have hE14:Ext w11 w14:=ExtX.box hE13 m2 (Nat.le_refl _);have t14:=t10.trans (hE11.trans hE14);have bz14:=bz2.ext0 t14;have p14:=p10.ext0 (hE11.trans hE14);clear k60 k61 k90 k91 f90 f91;have k60:w14.cell? ⟨w8.heap.size,0,none⟩=some (.bool sp):=p14.cell 0 rfl;have k61:w14.cell? ⟨w8.heap.size,1,none⟩=some (.slice ap np cp):=p14.cell 1 rfl;have k91:w14.cell? ⟨w11.heap.size,1,none⟩=some (.slice none 0 0):=m1.cell 1 rfl;have hup14:=mkx ZC.mono (mkx ZC.mono hup10 hE11) hE14;go_wp2_with ((with_reducible show wpList _ _ _ (⟨_, .store _ _ _,_,_,_,_⟩::_) _ _);refine a0b a0u rfl rfl bz14 rfl rfl (a2B _ _ _ _ _ _ _) ?_;intro w15 r3 r4)
    have hfz:ZC (mk (a0g X b 3) w14) (.agg #[.bool sp, .slice ap np cp]) q.num:=by rw[hzg.out];exact hup14
    have hfd:NC (mk (a0g X b 3) w14) (.slice none 0 0) (dn q):=by rw[hd1.out];exact NC.zero _
    have h7:=QC.mono _ _ _ _ a0k (QC.mono _ _ _ _ (a0h r4 (by omega) (by omega)) (QC.of hfz hfd));exact bodyPost_ret (a0f rfl rfl a0u r3 rfl) rfl ⟨ExtX.box (hEs.trans t14) r4 (by omega),_,rfl,h7⟩
   ·have hd1:Hid (dn q=(k/(g:Int)).natAbs):=hid (by
     have h2:=hkg.out;unfold dn;rw[if_neg (by omega)];omega)
    rw[decide_eq_false h1];clear h1;go_wp2_with ((with_reducible show wpList _ _ _ (⟨_, .store _ _ _,_,_,_,_⟩::_) _ _);refine a0b a0u rfl rfl bz13 rfl rfl (a2B _ _ _ _ _ _ _) ?_;intro w15 r3 r4)
    have hfz:ZC (mk (a0g X b 3) w13) (.agg #[.bool sp, .slice ap np cp]) q.num:=by rw[hzg.out];exact hup13
    have hfd:NC (mk (a0g X b 3) w13) (.slice aq nq cq) (dn q):=by rw[hd1.out];exact hmq
    have h7:=QC.mono _ _ _ _ a0k (QC.mono _ _ _ _ (a0h r4 (by omega) (by omega)) (QC.of hfz hfd));exact bodyPost_ret (a0f rfl rfl a0u r3 rfl) rfl ⟨ExtX.box hEs13 r4 (by omega),_,rfl,h7⟩
theorem a3W (X:Nat->Bool) (w:World) (v:Int) (hX:HX X w) (h1: -9223372036854775808<=v) (h2:v<=9223372036854775807):Calls Tryz.prog 48 #[.int .i64 v] w (a1Z X w QC v):=by
 obtain⟨W,hW,hE,b0,hz⟩:=a1A w #[.bool false, .slice none 0 0, .slice none 0 0] 32;have hXW:HX (a0g X w.heap.size 1) W:=hX.boxes hz;obtain⟨b,hb⟩:∃b,w.heap.size=b:=⟨_,rfl⟩;have hbw:w.heap.size<=b:=by omega
 rw[hb]at b0 hz hXW;have h1':=hid h1;have h2':=hid h2;clear h1 h2;go_enter Tryz.func48,Tryz.ntmps48
 go_wp2_with fail
 refine(b0z (a0g X b 1) W v hXW h1'.out h2'.out).mono ?_;rintro e1 w1 ⟨hE1,u1,rfl,s6,a6,c6,l6,rfl,h61,h62,h63⟩;have b1':=b0.ext0 hE1;have hcq:=a5r.ofInt h62;go_wp2_with ((with_reducible show wpList _ _ _ (⟨_, .store _ _ _,_,_,_,_⟩::_) _ _);refine a0b a0u rfl rfl b1' rfl rfl (a2B _ _ _ _ _ _ _) ?_;intro w7 r1 r2)
 have h7:=(h63.mono (a0c.mono _) (a0h r2 (by omega) (by omega))).mono (a0c.mono _) a0k;exact bodyPost_ret (a0f rfl rfl a0u r1 rfl) rfl ⟨ExtX.box (hE.trans hE1) r2 (by omega),_,rfl,s6,a6,c6,l6,none,0,[],rfl,h61,Nat.le_refl _,hcq,h7,Sl.nil _ _ _ _⟩
set_option maxRecDepth 100000 in
theorem a9e (X:Nat->Bool) (w:World) (u:Value) (x:Rat) (hX:HX X w) (hu:QV (mk X w) u x):Calls Tryz.prog 41 #[u] w (a5B w x.num.sign):=by
 have hlx:=hid hu.hq;obtain⟨s1,a1,n1,c1,d1,k1,e1,rfl⟩:=hu.shape;obtain⟨W,hW,hE,b0,hz⟩:=a1A w #[.bool s1, .slice a1 n1 c1, .slice d1 k1 e1] 32;have hXW:HX X W:=hX.ext hE;have hu1:=mkx QV.mono hu hE;obtain⟨b,hb⟩:∃b,w.heap.size=b:=⟨_,rfl⟩;rw[hb]at b0 hz;have k00:=b0.cell 0 rfl;have k01:=b0.cell 1 rfl;have k02:=b0.cell 2 rfl;have hfl:=a5o;clear hu;go_enter Tryz.func41,Tryz.ntmps41
 go_wp2_with fail
 refine(a3k X W _ x hXW hu1).mono ?_;rintro ee w5 ⟨hE5,u5,rfl,hq5⟩;obtain⟨s5,a5,n5,c5,d5,k5,e5,rfl⟩:=hq5.shape;have hz5:=hq5.num.1.zv (Nat.le_trans (Nat.le_trans (a0E x) hlx.out) (by omega));clear k00 k01 k02;go_wp2_with fail
 refine(b3s X w5 _ _ (hXW.ext hE5) hz5).mono ?_;rintro ee w6 ⟨hE6,rfl⟩;go_wp2_with fail
 go_ret
 exact⟨hE.trans (hE5.trans hE6),rfl⟩
set_option maxRecDepth 100000 in
theorem b4v (X:Nat->Bool) (w:World) (u:Value) (x:Rat) (hX:HX X w) (hu:QV (mk X w) u x):Calls Tryz.prog 148 #[u] w (a1Z X w QC (-x)):=by
 have hlx:=hid hu.hq;obtain⟨s1,a1,n1,c1,d1,k1,e1,rfl⟩:=hu.shape;obtain⟨W,hW,hE,b0,b1,hz⟩:=a1O w #[.bool s1, .slice a1 n1 c1, .slice d1 k1 e1] #[.bool false, .slice none 0 0, .slice none 0 0] 32 32;have hXW:HX (a0g X w.heap.size 2) W:=hX.boxes hz;have hu1:=QV.mono _ _ _ _ (a0q (nb:=2) hE) hu;obtain⟨b,hb⟩:∃b,w.heap.size=b:=⟨_,rfl⟩;have hbw:w.heap.size<=b:=by omega
 rw[hb]at b0 b1 hz hXW hu1;have k00:=b0.cell 0 rfl;have k01:=b0.cell 1 rfl;have k02:=b0.cell 2 rfl;clear hu;go_enter Tryz.func148,Tryz.ntmps148
 go_wp2_with fail
 refine(a3k (a0g X b 2) W _ x hXW hu1).mono ?_;rintro e w5 ⟨hE5,u5,rfl,hq5⟩;obtain⟨s5,a5,n5,c5,d5,k5,e5,rfl⟩:=hq5.shape;have hX5:=hXW.ext hE5;have bb0:=b0.ext0 hE5;have bb1:=b1.ext0 hE5;clear k00 k01 k02;go_upto_region 2 with((with_reducible show wpList _ _ _ (⟨_, .store _ _ _,_,_,_,_⟩::_) _ _);refine a0b a0u rfl rfl bb0 rfl rfl (a2B _ _ _ _ _ _ _) ?_;intro w7 r1 r2;have k00:=r1.cell 0 rfl;have k01:=r1.cell 1 rfl;have k02:=r1.cell 2 rfl)
 have hX7:=hX5.ext r2;have bb3:=bb1.ext r2 (a0d (by omega));have hx7:=QC.mono _ _ _ _ (a0h (X:=X) (lo:=b) (nb:=2) r2 (by omega) (by omega)) hq5;have hE7:Ext w w7:=ExtX.box (hE.trans hE5) r2 (by omega);obtain⟨hxz,hxm,hxdn⟩:=hx7.num;have hEd:Ext w7 w7.drew:=(ExtX.refl w7).drew;have hXd:HX (a0g X b 2) w7.drew:=hX7;have hxzd:ZC (mk (a0g X b 2) w7.drew) (.agg #[.bool s5, .slice a5 n5 c5]) x.num:=hxz;have hxdd:NC (mk (a0g X b 2) w7.drew) (.slice d5 k5 e5) (dn x):=hxdn;have bxn:lg x.num.natAbs<=549755813888:=Nat.le_trans (Nat.le_trans (a0E x) hlx.out) (by omega);have bxd:lg (dn x)<=549755813888:=Nat.le_trans (Nat.le_trans (b0A x) hlx.out) (by omega);have hxv:=hxzd.zv bxn;have hS:Hid (∀W',Ext w7.drew W'->W'.cell? ⟨b,0,none⟩=some (.bool s5)/\W'.cell? ⟨b,1,none⟩=some (.slice a5 n5 c5)/\W'.cell? ⟨b,2,none⟩=some (.slice d5 k5 e5)):=
  hid fun W' h=>⟨(r1.ext0 (hEd.trans h)).cell 0 rfl,(r1.ext0 (hEd.trans h)).cell 1 rfl,(r1.ext0 (hEd.trans h)).cell 2 rfl⟩
 go_region_held3 (fun w'=>w'.cell? ⟨b,0,none⟩=some (.bool s5)/\w'.cell? ⟨b,1,none⟩=some (.slice a5 n5 c5)/\w'.cell? ⟨b,2,none⟩=some (.slice d5 k5 e5))
  (first|exact hS.out _ t1|exact hS.out _ t2|exact⟨((r1.ext0 (hEd.trans t2)).ext (bb2.set3 _ _ _).2 (a0d (by omega))).cell 0 rfl,((r1.ext0 (hEd.trans t2)).ext (bb2.set3 _ _ _).2 (a0d (by omega))).cell 1 rfl,((r1.ext0 (hEd.trans t2)).ext (bb2.set3 _ _ _).2 (a0d (by omega))).cell 2 rfl⟩|go_keep)
  (first|(go_at_call 188;(with_reducible refine(b4f (a0g X b 2) w7.drew _ _ hXd hxv).mono ?_);rintro ee w8 ⟨t1,u8,rfl,s8,a8,c8,l8,rfl,h81,h82,h83⟩;have hX8:=HX.ext hXd t1;have t2:=t1;have hm8:=mkx NC.mono hxdd t1;have bb2:=bb3.ext0 (hEd.trans t2);have g0:=bb2.cell 0 rfl;have g1:=bb2.cell 1 rfl;have g2:=bb2.cell 2 rfl;have f0:=bb2.frozen 0;have f1:=bb2.frozen 1;have f2:=bb2.frozen 2))
 obtain⟨q1,q2⟩:=bb2.set3 (.bool s8) (.slice a8 l8.length c8) (.slice d5 k5 e5);have hz:ZC (mk (a0g X b 2) w8) (.agg #[.bool s8, .slice a8 l8.length c8]) (-x).num:=⟨s8,a8,c8,l8,rfl,h81,by rw[Rat.neg_num];exact h82,h83⟩;have hd:NC (mk (a0g X b 2) w8) (.slice d5 k5 e5) (dn (-x)):=by rw[b3A];exact hm8
 have h7:=QC.mono _ _ _ _ a0k (QC.mono _ _ _ _ (a0h q2 (by omega) (by omega)) (QC.of hz hd));have hEf:Ext w _:=ExtX.box (hE7.trans (hEd.trans t2)) q2 (by omega);clear g0 g1 g2 f0 f1 f2 k00 k01 k02 hS;go_wp2_with fail
 exact bodyPost_ret (a0f rfl rfl a0u q1 rfl) rfl ⟨hEf,_,rfl,h7⟩
end Go.Proofs.YtkddecjkfdogiaaGreat
