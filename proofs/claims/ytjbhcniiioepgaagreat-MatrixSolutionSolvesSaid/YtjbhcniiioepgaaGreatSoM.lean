/- reference 03: Add, Mul, Quo. Conditions: at most 2^36 digits. reference 06: Times, Plus. Conditions: at most 2^20 numbers of at most 2^36 digits. made: Mod, At, Number. Conditions: none but Go's own. reference 03: Sub, Compare, Fraction, Same. Conditions: at most 2^36 digits. -/
import Derived.Test.YtjbhcniiioepgaaGreatSoL
namespace Go.Proofs.YtjbhcniiioepgaaGreat
open Go.RowKit Go.Rep Go.Lim

set_option maxRecDepth 100000 in
set_option maxHeartbeats 1600000 in
theorem rqadd (X : Nat → Bool) (w : World) (u v : Value) (x y : Rat) (hX : HX X w) (hu : QV (mk X w) u x) (hv : QV (mk X w) v y) : Calls Tryz.prog 87 #[u, v] w (ROut X w QC (x + y)) := by
  have hlx := hid hu.hq
  have hly := hid hv.hq
  obtain ⟨s1, a1, n1, c1, d1, k1, e1, rfl⟩ := hu.shape
  obtain ⟨s2, a2, n2, c2, d2, k2, e2, rfl⟩ := hv.shape
  obtain ⟨W, hW, hE, b0, b1, b2, hz⟩ := boxes3 w #[.bool s1, .slice a1 n1 c1, .slice d1 k1 e1] #[.bool s2, .slice a2 n2 c2, .slice d2 k2 e2] #[.bool false, .slice none 0 0, .slice none 0 0] 31 31 31
  have hXW : HX (hidB X w.heap.size 3) W := hX.boxes hz
  have hu1 := QV.mono _ _ _ _ (le_boxes (nb := 3) hE) hu
  have hv1 := QV.mono _ _ _ _ (le_boxes (nb := 3) hE) hv
  obtain ⟨b, hb⟩ : ∃ b, w.heap.size = b := ⟨_, rfl⟩
  have hbw : w.heap.size ≤ b := by omega
  rw [hb] at b0 b1 b2 hz hXW hu1 hv1
  have hEd : Ext W W.drew := (ExtX.refl W).drew
  have hXd : HX (hidB X b 3) W.drew := hXW
  have hud : QV (mk (hidB X b 3) W.drew) (.agg #[.bool s1, .slice a1 n1 c1, .slice d1 k1 e1]) x := hu1
  have hvd : QV (mk (hidB X b 3) W.drew) (.agg #[.bool s2, .slice a2 n2 c2, .slice d2 k2 e2]) y := hv1
  have k00 := b0.cell 0 rfl
  have k01 := b0.cell 1 rfl
  have k02 := b0.cell 2 rfl
  have k10 := b1.cell 0 rfl
  have k11 := b1.cell 1 rfl
  have k12 := b1.cell 2 rfl
  clear hu hv
  go_enter Tryz.func87, Tryz.ntmps87
  go_upto_region 1 with (fail)
  go_cut [] from 5 to 8 (fun wx => ∃ s3 a3 n3 c3 d3 k3 e3 s4 a4 n4 c4 d4 k4 e4, Bx wx b #[.bool s3, .slice a3 n3 c3, .slice d3 k3 e3] 31 ∧ Bx wx (b + 1) #[.bool s4, .slice a4 n4 c4, .slice d4 k4 e4] 31 ∧ Bx wx (b + 1 + 1) #[.bool false, .slice none 0 0, .slice none 0 0] 31 ∧ QC (mk (hidB X b 3) wx) (.agg #[.bool s3, .slice a3 n3 c3, .slice d3 k3 e3]) x ∧ QC (mk (hidB X b 3) wx) (.agg #[.bool s4, .slice a4 n4 c4, .slice d4 k4 e4]) y ∧ Ext w wx)
  case first =>
    go_region_with (first | (go_at_call 82; (with_reducible refine (rqtake (hidB X b 3) W.drew _ x hXd hud).mono ?_); rintro ee w5 ⟨hE5, u5, rfl, hq5⟩; obtain ⟨s5, a5, n5, c5, d5, k5, e5, rfl⟩ := hq5.shape; have bb0 := b0.ext0 (hEd.trans hE5); have bb1 := b1.ext0 (hEd.trans hE5); have e00 := bb0.cell 0 rfl; have e01 := bb0.cell 1 rfl; have e02 := bb0.cell 2 rfl; have e10 := bb1.cell 0 rfl; have e11 := bb1.cell 1 rfl; have e12 := bb1.cell 2 rfl) | (go_at_call 82; (with_reducible refine (rqtake (hidB X b 3) w5 _ y (HX.ext hXd hE5) (mkx QV.mono hvd hE5)).mono ?_); rintro ee w6 ⟨hE6, u6, rfl, hq6⟩; obtain ⟨s6, a6, n6, c6, d6, k6, e6, rfl⟩ := hq6.shape; have bb2 := bb0.ext0 hE6; have bb3 := bb1.ext0 hE6; have g00 := bb2.cell 0 rfl; have g01 := bb2.cell 1 rfl; have g02 := bb2.cell 2 rfl; have g10 := bb3.cell 0 rfl; have g11 := bb3.cell 1 rfl; have g12 := bb3.cell 2 rfl; have fr0 := bb2.frozen 0; have fr1 := bb2.frozen 1; have fr4 := bb2.frozen 2; have fr2 := bb3.frozen 0; have fr3 := bb3.frozen 1; have fr5 := bb3.frozen 2))
    all_goals
      obtain ⟨wf, hwf, q0, q1, q2, q3, q4⟩ := two_stores3 (X := X) (nb := 3) bb2 bb3 (hE.trans ((hEd.trans hE5).trans hE6)) hbw (by omega) (.bool s5) (.slice a5 n5 c5) (.slice d5 k5 e5) (.bool s6) (.slice a6 n6 c6) (.slice d6 k6 e6)
      rw [hwf]
      have hfx : QC (mk (hidB X b 3) wf) (.agg #[.bool s5, .slice a5 n5 c5, .slice d5 k5 e5]) x := QC.mono _ _ _ _ q4 (mkx QC.mono hq5 hE6)
      have hfy : QC (mk (hidB X b 3) wf) (.agg #[.bool s6, .slice a6 n6 c6, .slice d6 k6 e6]) y := QC.mono _ _ _ _ q4 hq6
      have q5 := q2 (b + 1 + 1) _ _ (by omega) (by omega) ((b2.ext0 (hEd.trans hE5)).ext0 hE6)
      clear e00 e01 e02 e10 e11 e12 g00 g01 g02 g10 g11 g12 fr0 fr1 fr2 fr3 fr4 fr5 k00 k01 k02 k10 k11 k12 hwf
      go_wp2_with fail
      go_meet
      exact ⟨_, _, _, _, _, _, _, _, _, _, _, _, _, _, q0, q1, q5, hfx, hfy, q3⟩
  case rest =>
    clear k00 k01 k02 k10 k11 k12 b0 b1 b2 hu1 hv1 hud hvd hXd hEd hW
    obtain ⟨s3, a3, n3, c3, d3, k3, e3, s4, a4, n4, c4, d4, k4, e4, b0, b1, b2, hx, hy, hE1⟩ := hcut
    have hzz : w.heap.size + 3 ≤ wc.heap.size := by have := b2.lt; omega
    obtain ⟨hxz, hxm, hxdn⟩ := hx.num
    obtain ⟨hyz, hym, hydn⟩ := hy.num
    have hXc : HX (hidB X b 3) wc := hX.boxes' hE1 (by have := hzz; omega) hzz
    have k00 := b0.cell 0 rfl
    have k01 := b0.cell 1 rfl
    have k02 := b0.cell 2 rfl
    have k10 := b1.cell 0 rfl
    have k11 := b1.cell 1 rfl
    have k12 := b1.cell 2 rfl
    have hEd : Ext wc wc.drew := (ExtX.refl wc).drew
    have hXd : HX (hidB X b 3) wc.drew := hXc
    have hxd : QC (mk (hidB X b 3) wc.drew) (.agg #[.bool s3, .slice a3 n3 c3, .slice d3 k3 e3]) x := hx
    have hyd : QC (mk (hidB X b 3) wc.drew) (.agg #[.bool s4, .slice a4 n4 c4, .slice d4 k4 e4]) y := hy
    have hxzd : ZC (mk (hidB X b 3) wc.drew) (.agg #[.bool s3, .slice a3 n3 c3]) x.num := hxz
    have hyzd : ZC (mk (hidB X b 3) wc.drew) (.agg #[.bool s4, .slice a4 n4 c4]) y.num := hyz
    have bxn : lg x.num.natAbs ≤ 549755813888 := Nat.le_trans (Nat.le_trans (hq_num x) hlx.out) (by omega)
    have byn : lg y.num.natAbs ≤ 549755813888 := Nat.le_trans (Nat.le_trans (hq_num y) hly.out) (by omega)
    have bxd : lg x.den ≤ 549755813888 := Nat.le_trans (Nat.le_trans (hq_den x) hlx.out) (by omega)
    have byd : lg y.den ≤ 549755813888 := Nat.le_trans (Nat.le_trans (hq_den y) hly.out) (by omega)
    have bp1 : lg (x.num * (y.den : Int)).natAbs ≤ 274877906944 := by rw [Int.natAbs_mul, Int.natAbs_natCast]; have := lg_mul x.num.natAbs y.den; have := hq_num x; have := hq_den y; have := hlx.out; have := hly.out; omega
    have bp2 : lg (y.num * (x.den : Int)).natAbs ≤ 274877906944 := by rw [Int.natAbs_mul, Int.natAbs_natCast]; have := lg_mul y.num.natAbs x.den; have := hq_num y; have := hq_den x; have := hlx.out; have := hly.out; omega
    have bdd : lg (x.den * y.den) ≤ 274877906944 := by have := lg_mul x.den y.den; have := hq_den x; have := hq_den y; have := hlx.out; have := hly.out; omega
    have bnn : lg (x.num * y.num).natAbs ≤ 274877906944 := by rw [Int.natAbs_mul]; have := lg_mul x.num.natAbs y.num.natAbs; have := hq_num x; have := hq_num y; have := hlx.out; have := hly.out; omega
    have bd0 : 0 < x.den * y.den := Nat.mul_pos x.den_pos y.den_pos
    have hB := hid (And.intro b0 b1)
    have hS : Hid (∀ W', Ext wc.drew W' → W'.cell? ⟨b, 0, none⟩ = some (.bool s3) ∧ W'.cell? ⟨b, 1, none⟩ = some (.slice a3 n3 c3) ∧ W'.cell? ⟨b, 2, none⟩ = some (.slice d3 k3 e3) ∧ W'.cell? ⟨b + 1, 0, none⟩ = some (.bool s4) ∧ W'.cell? ⟨b + 1, 1, none⟩ = some (.slice a4 n4 c4) ∧ W'.cell? ⟨b + 1, 2, none⟩ = some (.slice d4 k4 e4)) :=
      hid fun W' h => ⟨(b0.ext0 (hEd.trans h)).cell 0 rfl, (b0.ext0 (hEd.trans h)).cell 1 rfl, (b0.ext0 (hEd.trans h)).cell 2 rfl, (b1.ext0 (hEd.trans h)).cell 0 rfl, (b1.ext0 (hEd.trans h)).cell 1 rfl, (b1.ext0 (hEd.trans h)).cell 2 rfl⟩
    have bqx : hq x ≤ 549755813888 := Nat.le_trans hlx.out (by decide)
    have bqy : hq y ≤ 549755813888 := Nat.le_trans hly.out (by decide)
    have cxn : lg x.num.natAbs ≤ 274877906944 := Nat.le_trans (Nat.le_trans (hq_num x) hlx.out) (by omega)
    have cyn : lg y.num.natAbs ≤ 274877906944 := Nat.le_trans (Nat.le_trans (hq_num y) hly.out) (by omega)
    have cxd : lg (x.den : Int).natAbs ≤ 274877906944 := Nat.le_trans (Nat.le_trans (hq_den x) hlx.out) (by omega)
    have cyd : lg (y.den : Int).natAbs ≤ 274877906944 := Nat.le_trans (Nat.le_trans (hq_den y) hly.out) (by omega)
    have cdd : lg ((x.den : Int) * (y.den : Int)).natAbs ≤ 274877906944 := by rw [← Int.natCast_mul, Int.natAbs_natCast]; exact bdd
    have cd0 : (x.den : Int) * (y.den : Int) ≠ 0 := Int.mul_ne_zero (by have := x.den_nz; omega) (by have := y.den_nz; omega)
    have csum : lg (x.num * (y.den : Int) + y.num * (x.den : Int)).natAbs ≤ 274877906944 := by
      have h1 := lg_mono (Int.natAbs_add_le (x.num * (y.den : Int)) (y.num * (x.den : Int)))
      have h2 := lg_add (x.num * (y.den : Int)).natAbs (y.num * (x.den : Int)).natAbs
      have h3 : lg (x.num * (y.den : Int)).natAbs ≤ 137438953472 := by rw [Int.natAbs_mul, Int.natAbs_natCast]; have := lg_mul x.num.natAbs y.den; have := hq_num x; have := hq_den y; have := hlx.out; have := hly.out; omega
      have h4 : lg (y.num * (x.den : Int)).natAbs ≤ 137438953472 := by rw [Int.natAbs_mul, Int.natAbs_natCast]; have := lg_mul y.num.natAbs x.den; have := hq_num y; have := hq_den x; have := hlx.out; have := hly.out; omega
      omega
    have hfin : Hid (((x.num * (y.den : Int) + y.num * (x.den : Int) : Int) : Rat) / (((x.den : Int) * (y.den : Int) : Int) : Rat) = x + y) := hid (by
      rw [← Int.natCast_mul, Rat.intCast_natCast, ← Rat.mkRat_eq_div]; exact (Rat.add_def' x y).symm)
    go_wp2_with fail
    go_region_held3 (fun w' => w'.cell? ⟨b, 0, none⟩ = some (.bool s3) ∧ w'.cell? ⟨b, 1, none⟩ = some (.slice a3 n3 c3) ∧ w'.cell? ⟨b, 2, none⟩ = some (.slice d3 k3 e3) ∧ w'.cell? ⟨b + 1, 0, none⟩ = some (.bool s4) ∧ w'.cell? ⟨b + 1, 1, none⟩ = some (.slice a4 n4 c4) ∧ w'.cell? ⟨b + 1, 2, none⟩ = some (.slice d4 k4 e4))
      (first | exact hS.out _ t1 | exact hS.out _ t2 | exact hS.out _ t3 | exact hS.out _ t4 | exact hS.out _ t5 | exact hS.out _ t6 | exact hS.out _ t7 | exact hS.out _ t8 | exact hS.out _ t9 | exact ⟨((hB.out.1.ext0 (hEd.trans t9)).ext (bb2.set3 _ _ _).2 (ob_other (by omega))).cell 0 rfl, ((hB.out.1.ext0 (hEd.trans t9)).ext (bb2.set3 _ _ _).2 (ob_other (by omega))).cell 1 rfl, ((hB.out.1.ext0 (hEd.trans t9)).ext (bb2.set3 _ _ _).2 (ob_other (by omega))).cell 2 rfl, ((hB.out.2.ext0 (hEd.trans t9)).ext (bb2.set3 _ _ _).2 (ob_other (by omega))).cell 0 rfl, ((hB.out.2.ext0 (hEd.trans t9)).ext (bb2.set3 _ _ _).2 (ob_other (by omega))).cell 1 rfl, ((hB.out.2.ext0 (hEd.trans t9)).ext (bb2.set3 _ _ _).2 (ob_other (by omega))).cell 2 rfl⟩ | go_keep)
      (first | (go_at_call 115; (with_reducible refine (rqden (hidB X b 3) wc.drew _ y hXd hyd bqy).mono ?_); rintro ee w5 ⟨t1, u5, rfl, hu5⟩; have hX5 := HX.ext hXd t1; have hx5 := mkx ZC.mono hxzd t1) | (go_at_call 114; (with_reducible refine (rimul (hidB X b 3) w5 _ _ x.num (y.den : Int) hX5 (hx5.zv (Nat.le_trans cxn (by decide))) (hu5.zv (Nat.le_trans cyd (by decide))) cxn cyd).mono ?_); rintro ee w6 ⟨hE6, u6, rfl, hu6⟩; have t2 := t1.trans hE6; have hX6 := HX.ext hXd t2; have hx6 := mkx QC.mono hxd t2) | (go_at_call 115; (with_reducible refine (rqden (hidB X b 3) w6 _ x hX6 hx6 bqx).mono ?_); rintro ee w7 ⟨hE7, u7, rfl, hu7⟩; have t3 := t2.trans hE7; have hX7 := HX.ext hXd t3; have hy7 := mkx ZC.mono hyzd t3) | (go_at_call 114; (with_reducible refine (rimul (hidB X b 3) w7 _ _ y.num (x.den : Int) hX7 (hy7.zv (Nat.le_trans cyn (by decide))) (hu7.zv (Nat.le_trans cxd (by decide))) cyn cxd).mono ?_); rintro ee w8 ⟨hE8, u8, rfl, hu8⟩; have t4 := t3.trans hE8; have hX8 := HX.ext hXd t4; have hz6 := mkx ZC.mono hu6 (hE7.trans hE8)) | (go_at_call 137; (with_reducible refine (riadd (hidB X b 3) w8 _ _ _ _ hX8 (hz6.zv (Nat.le_trans bp1 (by decide))) (hu8.zv (Nat.le_trans bp2 (by decide)))).mono ?_); rintro ee w9 ⟨hE9, u9, rfl, hu9⟩; have t5 := t4.trans hE9; have hX9 := HX.ext hXd t5; have hx9 := mkx QC.mono hxd t5) | (go_at_call 115; (with_reducible refine (rqden (hidB X b 3) w9 _ x hX9 hx9 bqx).mono ?_); rintro ee w10 ⟨hE10, u10, rfl, hu10⟩; have t6 := t5.trans hE10; have hX10 := HX.ext hXd t6; have hy10 := mkx QC.mono hyd t6) | (go_at_call 115; (with_reducible refine (rqden (hidB X b 3) w10 _ y hX10 hy10 bqy).mono ?_); rintro ee w11 ⟨hE11, u11, rfl, hu11⟩; have t7 := t6.trans hE11; have hX11 := HX.ext hXd t7; have hm10 := mkx ZC.mono hu10 hE11) | (go_at_call 114; (with_reducible refine (rimul (hidB X b 3) w11 _ _ (x.den : Int) (y.den : Int) hX11 (hm10.zv (Nat.le_trans cxd (by decide))) (hu11.zv (Nat.le_trans cyd (by decide))) cxd cyd).mono ?_); rintro ee w12 ⟨hE12, u12, rfl, hu12⟩; have t8 := t7.trans hE12; have hX12 := HX.ext hXd t8; have hz9 := mkx ZC.mono hu9 (hE10.trans (hE11.trans hE12))) | (go_at_call 113; (with_reducible refine (rqover (hidB X b 3) w12 _ _ _ _ hX12 hz9 hu12 csum cdd cd0).mono ?_); rintro ee w13 ⟨hE13, u13, rfl, hu13⟩; have t9 := t8.trans hE13; obtain ⟨s13, a13, n13, c13, d13, k13, e13, rfl⟩ := hu13.shape; have bb2 := b2.ext0 (hEd.trans t9); have g0 := bb2.cell 0 rfl; have g1 := bb2.cell 1 rfl; have g2 := bb2.cell 2 rfl; have f0 := bb2.frozen 0; have f1 := bb2.frozen 1; have f2 := bb2.frozen 2))
    rw [hfin.out] at hu13
    obtain ⟨r1, r2⟩ := bb2.set3 (.bool s13) (.slice a13 n13 c13) (.slice d13 k13 e13)
    have h7 := QC.mono _ _ _ _ le_unbox (QC.mono _ _ _ _ (le_store r2 (by omega) (by omega)) hu13)
    have hEf : Ext w _ := ExtX.box (hE1.trans (hEd.trans t9)) r2 (by omega)
    clear g0 g1 g2 f0 f1 f2 k00 k01 k02 k10 k11 k12 hS hB
    go_wp2_with fail
    exact bodyPost_ret (results_box rfl rfl stRat r1 rfl) rfl ⟨hEf, _, rfl, h7⟩

set_option maxRecDepth 100000 in
set_option maxHeartbeats 1600000 in
theorem rqmul (X : Nat → Bool) (w : World) (u v : Value) (x y : Rat) (hX : HX X w) (hu : QV (mk X w) u x) (hv : QV (mk X w) v y) : Calls Tryz.prog 57 #[u, v] w (ROut X w QC (x * y)) := by
  have hlx := hid hu.hq
  have hly := hid hv.hq
  obtain ⟨s1, a1, n1, c1, d1, k1, e1, rfl⟩ := hu.shape
  obtain ⟨s2, a2, n2, c2, d2, k2, e2, rfl⟩ := hv.shape
  obtain ⟨W, hW, hE, b0, b1, b2, hz⟩ := boxes3 w #[.bool s1, .slice a1 n1 c1, .slice d1 k1 e1] #[.bool s2, .slice a2 n2 c2, .slice d2 k2 e2] #[.bool false, .slice none 0 0, .slice none 0 0] 31 31 31
  have hXW : HX (hidB X w.heap.size 3) W := hX.boxes hz
  have hu1 := QV.mono _ _ _ _ (le_boxes (nb := 3) hE) hu
  have hv1 := QV.mono _ _ _ _ (le_boxes (nb := 3) hE) hv
  obtain ⟨b, hb⟩ : ∃ b, w.heap.size = b := ⟨_, rfl⟩
  have hbw : w.heap.size ≤ b := by omega
  rw [hb] at b0 b1 b2 hz hXW hu1 hv1
  have hEd : Ext W W.drew := (ExtX.refl W).drew
  have hXd : HX (hidB X b 3) W.drew := hXW
  have hud : QV (mk (hidB X b 3) W.drew) (.agg #[.bool s1, .slice a1 n1 c1, .slice d1 k1 e1]) x := hu1
  have hvd : QV (mk (hidB X b 3) W.drew) (.agg #[.bool s2, .slice a2 n2 c2, .slice d2 k2 e2]) y := hv1
  have k00 := b0.cell 0 rfl
  have k01 := b0.cell 1 rfl
  have k02 := b0.cell 2 rfl
  have k10 := b1.cell 0 rfl
  have k11 := b1.cell 1 rfl
  have k12 := b1.cell 2 rfl
  clear hu hv
  go_enter Tryz.func57, Tryz.ntmps57
  go_upto_region 1 with (fail)
  go_cut [] from 5 to 8 (fun wx => ∃ s3 a3 n3 c3 d3 k3 e3 s4 a4 n4 c4 d4 k4 e4, Bx wx b #[.bool s3, .slice a3 n3 c3, .slice d3 k3 e3] 31 ∧ Bx wx (b + 1) #[.bool s4, .slice a4 n4 c4, .slice d4 k4 e4] 31 ∧ Bx wx (b + 1 + 1) #[.bool false, .slice none 0 0, .slice none 0 0] 31 ∧ QC (mk (hidB X b 3) wx) (.agg #[.bool s3, .slice a3 n3 c3, .slice d3 k3 e3]) x ∧ QC (mk (hidB X b 3) wx) (.agg #[.bool s4, .slice a4 n4 c4, .slice d4 k4 e4]) y ∧ Ext w wx)
  case first =>
    go_region_with (first | (go_at_call 82; (with_reducible refine (rqtake (hidB X b 3) W.drew _ x hXd hud).mono ?_); rintro ee w5 ⟨hE5, u5, rfl, hq5⟩; obtain ⟨s5, a5, n5, c5, d5, k5, e5, rfl⟩ := hq5.shape; have bb0 := b0.ext0 (hEd.trans hE5); have bb1 := b1.ext0 (hEd.trans hE5); have e00 := bb0.cell 0 rfl; have e01 := bb0.cell 1 rfl; have e02 := bb0.cell 2 rfl; have e10 := bb1.cell 0 rfl; have e11 := bb1.cell 1 rfl; have e12 := bb1.cell 2 rfl) | (go_at_call 82; (with_reducible refine (rqtake (hidB X b 3) w5 _ y (HX.ext hXd hE5) (mkx QV.mono hvd hE5)).mono ?_); rintro ee w6 ⟨hE6, u6, rfl, hq6⟩; obtain ⟨s6, a6, n6, c6, d6, k6, e6, rfl⟩ := hq6.shape; have bb2 := bb0.ext0 hE6; have bb3 := bb1.ext0 hE6; have g00 := bb2.cell 0 rfl; have g01 := bb2.cell 1 rfl; have g02 := bb2.cell 2 rfl; have g10 := bb3.cell 0 rfl; have g11 := bb3.cell 1 rfl; have g12 := bb3.cell 2 rfl; have fr0 := bb2.frozen 0; have fr1 := bb2.frozen 1; have fr4 := bb2.frozen 2; have fr2 := bb3.frozen 0; have fr3 := bb3.frozen 1; have fr5 := bb3.frozen 2))
    all_goals
      obtain ⟨wf, hwf, q0, q1, q2, q3, q4⟩ := two_stores3 (X := X) (nb := 3) bb2 bb3 (hE.trans ((hEd.trans hE5).trans hE6)) hbw (by omega) (.bool s5) (.slice a5 n5 c5) (.slice d5 k5 e5) (.bool s6) (.slice a6 n6 c6) (.slice d6 k6 e6)
      rw [hwf]
      have hfx : QC (mk (hidB X b 3) wf) (.agg #[.bool s5, .slice a5 n5 c5, .slice d5 k5 e5]) x := QC.mono _ _ _ _ q4 (mkx QC.mono hq5 hE6)
      have hfy : QC (mk (hidB X b 3) wf) (.agg #[.bool s6, .slice a6 n6 c6, .slice d6 k6 e6]) y := QC.mono _ _ _ _ q4 hq6
      have q5 := q2 (b + 1 + 1) _ _ (by omega) (by omega) ((b2.ext0 (hEd.trans hE5)).ext0 hE6)
      clear e00 e01 e02 e10 e11 e12 g00 g01 g02 g10 g11 g12 fr0 fr1 fr2 fr3 fr4 fr5 k00 k01 k02 k10 k11 k12 hwf
      go_wp2_with fail
      go_meet
      exact ⟨_, _, _, _, _, _, _, _, _, _, _, _, _, _, q0, q1, q5, hfx, hfy, q3⟩
  case rest =>
    clear k00 k01 k02 k10 k11 k12 b0 b1 b2 hu1 hv1 hud hvd hXd hEd hW
    obtain ⟨s3, a3, n3, c3, d3, k3, e3, s4, a4, n4, c4, d4, k4, e4, b0, b1, b2, hx, hy, hE1⟩ := hcut
    have hzz : w.heap.size + 3 ≤ wc.heap.size := by have := b2.lt; omega
    obtain ⟨hxz, hxm, hxdn⟩ := hx.num
    obtain ⟨hyz, hym, hydn⟩ := hy.num
    have hXc : HX (hidB X b 3) wc := hX.boxes' hE1 (by have := hzz; omega) hzz
    have k00 := b0.cell 0 rfl
    have k01 := b0.cell 1 rfl
    have k02 := b0.cell 2 rfl
    have k10 := b1.cell 0 rfl
    have k11 := b1.cell 1 rfl
    have k12 := b1.cell 2 rfl
    have hEd : Ext wc wc.drew := (ExtX.refl wc).drew
    have hXd : HX (hidB X b 3) wc.drew := hXc
    have hxd : QC (mk (hidB X b 3) wc.drew) (.agg #[.bool s3, .slice a3 n3 c3, .slice d3 k3 e3]) x := hx
    have hyd : QC (mk (hidB X b 3) wc.drew) (.agg #[.bool s4, .slice a4 n4 c4, .slice d4 k4 e4]) y := hy
    have hxzd : ZC (mk (hidB X b 3) wc.drew) (.agg #[.bool s3, .slice a3 n3 c3]) x.num := hxz
    have hyzd : ZC (mk (hidB X b 3) wc.drew) (.agg #[.bool s4, .slice a4 n4 c4]) y.num := hyz
    have bxn : lg x.num.natAbs ≤ 549755813888 := Nat.le_trans (Nat.le_trans (hq_num x) hlx.out) (by omega)
    have byn : lg y.num.natAbs ≤ 549755813888 := Nat.le_trans (Nat.le_trans (hq_num y) hly.out) (by omega)
    have bxd : lg x.den ≤ 549755813888 := Nat.le_trans (Nat.le_trans (hq_den x) hlx.out) (by omega)
    have byd : lg y.den ≤ 549755813888 := Nat.le_trans (Nat.le_trans (hq_den y) hly.out) (by omega)
    have bp1 : lg (x.num * (y.den : Int)).natAbs ≤ 274877906944 := by rw [Int.natAbs_mul, Int.natAbs_natCast]; have := lg_mul x.num.natAbs y.den; have := hq_num x; have := hq_den y; have := hlx.out; have := hly.out; omega
    have bp2 : lg (y.num * (x.den : Int)).natAbs ≤ 274877906944 := by rw [Int.natAbs_mul, Int.natAbs_natCast]; have := lg_mul y.num.natAbs x.den; have := hq_num y; have := hq_den x; have := hlx.out; have := hly.out; omega
    have bdd : lg (x.den * y.den) ≤ 274877906944 := by have := lg_mul x.den y.den; have := hq_den x; have := hq_den y; have := hlx.out; have := hly.out; omega
    have bnn : lg (x.num * y.num).natAbs ≤ 274877906944 := by rw [Int.natAbs_mul]; have := lg_mul x.num.natAbs y.num.natAbs; have := hq_num x; have := hq_num y; have := hlx.out; have := hly.out; omega
    have bd0 : 0 < x.den * y.den := Nat.mul_pos x.den_pos y.den_pos
    have hB := hid (And.intro b0 b1)
    have hS : Hid (∀ W', Ext wc.drew W' → W'.cell? ⟨b, 0, none⟩ = some (.bool s3) ∧ W'.cell? ⟨b, 1, none⟩ = some (.slice a3 n3 c3) ∧ W'.cell? ⟨b, 2, none⟩ = some (.slice d3 k3 e3) ∧ W'.cell? ⟨b + 1, 0, none⟩ = some (.bool s4) ∧ W'.cell? ⟨b + 1, 1, none⟩ = some (.slice a4 n4 c4) ∧ W'.cell? ⟨b + 1, 2, none⟩ = some (.slice d4 k4 e4)) :=
      hid fun W' h => ⟨(b0.ext0 (hEd.trans h)).cell 0 rfl, (b0.ext0 (hEd.trans h)).cell 1 rfl, (b0.ext0 (hEd.trans h)).cell 2 rfl, (b1.ext0 (hEd.trans h)).cell 0 rfl, (b1.ext0 (hEd.trans h)).cell 1 rfl, (b1.ext0 (hEd.trans h)).cell 2 rfl⟩
    have bqx : hq x ≤ 549755813888 := Nat.le_trans hlx.out (by decide)
    have bqy : hq y ≤ 549755813888 := Nat.le_trans hly.out (by decide)
    have cxn : lg x.num.natAbs ≤ 274877906944 := Nat.le_trans (Nat.le_trans (hq_num x) hlx.out) (by omega)
    have cyn : lg y.num.natAbs ≤ 274877906944 := Nat.le_trans (Nat.le_trans (hq_num y) hly.out) (by omega)
    have cxd : lg (x.den : Int).natAbs ≤ 274877906944 := Nat.le_trans (Nat.le_trans (hq_den x) hlx.out) (by omega)
    have cyd : lg (y.den : Int).natAbs ≤ 274877906944 := Nat.le_trans (Nat.le_trans (hq_den y) hly.out) (by omega)
    have cdd : lg ((x.den : Int) * (y.den : Int)).natAbs ≤ 274877906944 := by rw [← Int.natCast_mul, Int.natAbs_natCast]; exact bdd
    have cd0 : (x.den : Int) * (y.den : Int) ≠ 0 := Int.mul_ne_zero (by have := x.den_nz; omega) (by have := y.den_nz; omega)
    have hfin : Hid (((x.num * y.num : Int) : Rat) / (((x.den : Int) * (y.den : Int) : Int) : Rat) = x * y) := hid (by
      rw [← Int.natCast_mul, Rat.intCast_natCast, ← Rat.mkRat_eq_div]; exact (Rat.mul_def' x y).symm)
    go_wp2_with fail
    go_region_held3 (fun w' => w'.cell? ⟨b, 0, none⟩ = some (.bool s3) ∧ w'.cell? ⟨b, 1, none⟩ = some (.slice a3 n3 c3) ∧ w'.cell? ⟨b, 2, none⟩ = some (.slice d3 k3 e3) ∧ w'.cell? ⟨b + 1, 0, none⟩ = some (.bool s4) ∧ w'.cell? ⟨b + 1, 1, none⟩ = some (.slice a4 n4 c4) ∧ w'.cell? ⟨b + 1, 2, none⟩ = some (.slice d4 k4 e4))
      (first | exact hS.out _ t1 | exact hS.out _ t2 | exact hS.out _ t3 | exact hS.out _ t4 | exact hS.out _ t5 | exact ⟨((hB.out.1.ext0 (hEd.trans t5)).ext (bb2.set3 _ _ _).2 (ob_other (by omega))).cell 0 rfl, ((hB.out.1.ext0 (hEd.trans t5)).ext (bb2.set3 _ _ _).2 (ob_other (by omega))).cell 1 rfl, ((hB.out.1.ext0 (hEd.trans t5)).ext (bb2.set3 _ _ _).2 (ob_other (by omega))).cell 2 rfl, ((hB.out.2.ext0 (hEd.trans t5)).ext (bb2.set3 _ _ _).2 (ob_other (by omega))).cell 0 rfl, ((hB.out.2.ext0 (hEd.trans t5)).ext (bb2.set3 _ _ _).2 (ob_other (by omega))).cell 1 rfl, ((hB.out.2.ext0 (hEd.trans t5)).ext (bb2.set3 _ _ _).2 (ob_other (by omega))).cell 2 rfl⟩ | go_keep)
      (first | (go_at_call 114; (with_reducible refine (rimul (hidB X b 3) wc.drew _ _ x.num y.num hXd (hxzd.zv (Nat.le_trans cxn (by decide))) (hyzd.zv (Nat.le_trans cyn (by decide))) cxn cyn).mono ?_); rintro ee w5 ⟨t1, u5, rfl, hu5⟩; have hX5 := HX.ext hXd t1; have hx5 := mkx QC.mono hxd t1) | (go_at_call 115; (with_reducible refine (rqden (hidB X b 3) w5 _ x hX5 hx5 bqx).mono ?_); rintro ee w6 ⟨hE6, u6, rfl, hu6⟩; have t2 := t1.trans hE6; have hX6 := HX.ext hXd t2; have hy6 := mkx QC.mono hyd t2) | (go_at_call 115; (with_reducible refine (rqden (hidB X b 3) w6 _ y hX6 hy6 bqy).mono ?_); rintro ee w7 ⟨hE7, u7, rfl, hu7⟩; have t3 := t2.trans hE7; have hX7 := HX.ext hXd t3; have hm6 := mkx ZC.mono hu6 hE7) | (go_at_call 114; (with_reducible refine (rimul (hidB X b 3) w7 _ _ (x.den : Int) (y.den : Int) hX7 (hm6.zv (Nat.le_trans cxd (by decide))) (hu7.zv (Nat.le_trans cyd (by decide))) cxd cyd).mono ?_); rintro ee w8 ⟨hE8, u8, rfl, hu8⟩; have t4 := t3.trans hE8; have hX8 := HX.ext hXd t4; have hz5 := mkx ZC.mono hu5 (hE6.trans (hE7.trans hE8))) | (go_at_call 113; (with_reducible refine (rqover (hidB X b 3) w8 _ _ _ _ hX8 hz5 hu8 bnn cdd cd0).mono ?_); rintro ee w9 ⟨hE9, u9, rfl, hu9⟩; have t5 := t4.trans hE9; obtain ⟨s13, a13, n13, c13, d13, k13, e13, rfl⟩ := hu9.shape; have bb2 := b2.ext0 (hEd.trans t5); have g0 := bb2.cell 0 rfl; have g1 := bb2.cell 1 rfl; have g2 := bb2.cell 2 rfl; have f0 := bb2.frozen 0; have f1 := bb2.frozen 1; have f2 := bb2.frozen 2))
    rw [hfin.out] at hu9
    obtain ⟨r1, r2⟩ := bb2.set3 (.bool s13) (.slice a13 n13 c13) (.slice d13 k13 e13)
    have h7 := QC.mono _ _ _ _ le_unbox (QC.mono _ _ _ _ (le_store r2 (by omega) (by omega)) hu9)
    have hEf : Ext w _ := ExtX.box (hE1.trans (hEd.trans t5)) r2 (by omega)
    clear g0 g1 g2 f0 f1 f2 k00 k01 k02 k10 k11 k12 hS hB
    go_wp2_with fail
    exact bodyPost_ret (results_box rfl rfl stRat r1 rfl) rfl ⟨hEf, _, rfl, h7⟩

set_option maxRecDepth 100000 in
set_option maxHeartbeats 1600000 in
theorem rqquo (X : Nat → Bool) (w : World) (u v : Value) (x y : Rat) (hX : HX X w) (hu : QV (mk X w) u x) (hv : QV (mk X w) v y) (hy0 : y ≠ 0) : Calls Tryz.prog 146 #[u, v] w (ROut X w QC (x / y)) := by
  have hlx := hid hu.hq
  have hly := hid hv.hq
  obtain ⟨s1, a1, n1, c1, d1, k1, e1, rfl⟩ := hu.shape
  obtain ⟨s2, a2, n2, c2, d2, k2, e2, rfl⟩ := hv.shape
  obtain ⟨W, hW, hE, b0, b1, b2, hz⟩ := boxes3 w #[.bool s1, .slice a1 n1 c1, .slice d1 k1 e1] #[.bool s2, .slice a2 n2 c2, .slice d2 k2 e2] #[.bool false, .slice none 0 0, .slice none 0 0] 31 31 31
  have hXW : HX (hidB X w.heap.size 3) W := hX.boxes hz
  have hu1 := QV.mono _ _ _ _ (le_boxes (nb := 3) hE) hu
  have hv1 := QV.mono _ _ _ _ (le_boxes (nb := 3) hE) hv
  obtain ⟨b, hb⟩ : ∃ b, w.heap.size = b := ⟨_, rfl⟩
  have hbw : w.heap.size ≤ b := by omega
  rw [hb] at b0 b1 b2 hz hXW hu1 hv1
  have hEd : Ext W W.drew := (ExtX.refl W).drew
  have hXd : HX (hidB X b 3) W.drew := hXW
  have hud : QV (mk (hidB X b 3) W.drew) (.agg #[.bool s1, .slice a1 n1 c1, .slice d1 k1 e1]) x := hu1
  have hvd : QV (mk (hidB X b 3) W.drew) (.agg #[.bool s2, .slice a2 n2 c2, .slice d2 k2 e2]) y := hv1
  have k00 := b0.cell 0 rfl
  have k01 := b0.cell 1 rfl
  have k02 := b0.cell 2 rfl
  have k10 := b1.cell 0 rfl
  have k11 := b1.cell 1 rfl
  have k12 := b1.cell 2 rfl
  clear hu hv
  go_enter Tryz.func146, Tryz.ntmps146
  go_upto_region 1 with (fail)
  go_cut [] from 5 to 8 (fun wx => ∃ s3 a3 n3 c3 d3 k3 e3 s4 a4 n4 c4 d4 k4 e4, Bx wx b #[.bool s3, .slice a3 n3 c3, .slice d3 k3 e3] 31 ∧ Bx wx (b + 1) #[.bool s4, .slice a4 n4 c4, .slice d4 k4 e4] 31 ∧ Bx wx (b + 1 + 1) #[.bool false, .slice none 0 0, .slice none 0 0] 31 ∧ QC (mk (hidB X b 3) wx) (.agg #[.bool s3, .slice a3 n3 c3, .slice d3 k3 e3]) x ∧ QC (mk (hidB X b 3) wx) (.agg #[.bool s4, .slice a4 n4 c4, .slice d4 k4 e4]) y ∧ Ext w wx)
  case first =>
    go_region_with (first | (go_at_call 82; (with_reducible refine (rqtake (hidB X b 3) W.drew _ x hXd hud).mono ?_); rintro ee w5 ⟨hE5, u5, rfl, hq5⟩; obtain ⟨s5, a5, n5, c5, d5, k5, e5, rfl⟩ := hq5.shape; have bb0 := b0.ext0 (hEd.trans hE5); have bb1 := b1.ext0 (hEd.trans hE5); have e00 := bb0.cell 0 rfl; have e01 := bb0.cell 1 rfl; have e02 := bb0.cell 2 rfl; have e10 := bb1.cell 0 rfl; have e11 := bb1.cell 1 rfl; have e12 := bb1.cell 2 rfl) | (go_at_call 82; (with_reducible refine (rqtake (hidB X b 3) w5 _ y (HX.ext hXd hE5) (mkx QV.mono hvd hE5)).mono ?_); rintro ee w6 ⟨hE6, u6, rfl, hq6⟩; obtain ⟨s6, a6, n6, c6, d6, k6, e6, rfl⟩ := hq6.shape; have bb2 := bb0.ext0 hE6; have bb3 := bb1.ext0 hE6; have g00 := bb2.cell 0 rfl; have g01 := bb2.cell 1 rfl; have g02 := bb2.cell 2 rfl; have g10 := bb3.cell 0 rfl; have g11 := bb3.cell 1 rfl; have g12 := bb3.cell 2 rfl; have fr0 := bb2.frozen 0; have fr1 := bb2.frozen 1; have fr4 := bb2.frozen 2; have fr2 := bb3.frozen 0; have fr3 := bb3.frozen 1; have fr5 := bb3.frozen 2))
    all_goals
      obtain ⟨wf, hwf, q0, q1, q2, q3, q4⟩ := two_stores3 (X := X) (nb := 3) bb2 bb3 (hE.trans ((hEd.trans hE5).trans hE6)) hbw (by omega) (.bool s5) (.slice a5 n5 c5) (.slice d5 k5 e5) (.bool s6) (.slice a6 n6 c6) (.slice d6 k6 e6)
      rw [hwf]
      have hfx : QC (mk (hidB X b 3) wf) (.agg #[.bool s5, .slice a5 n5 c5, .slice d5 k5 e5]) x := QC.mono _ _ _ _ q4 (mkx QC.mono hq5 hE6)
      have hfy : QC (mk (hidB X b 3) wf) (.agg #[.bool s6, .slice a6 n6 c6, .slice d6 k6 e6]) y := QC.mono _ _ _ _ q4 hq6
      have q5 := q2 (b + 1 + 1) _ _ (by omega) (by omega) ((b2.ext0 (hEd.trans hE5)).ext0 hE6)
      clear e00 e01 e02 e10 e11 e12 g00 g01 g02 g10 g11 g12 fr0 fr1 fr2 fr3 fr4 fr5 k00 k01 k02 k10 k11 k12 hwf
      go_wp2_with fail
      go_meet
      exact ⟨_, _, _, _, _, _, _, _, _, _, _, _, _, _, q0, q1, q5, hfx, hfy, q3⟩
  case rest =>
    clear k00 k01 k02 k10 k11 k12 b0 b1 b2 hu1 hv1 hud hvd hXd hEd hW
    obtain ⟨s3, a3, n3, c3, d3, k3, e3, s4, a4, n4, c4, d4, k4, e4, b0, b1, b2, hx, hy, hE1⟩ := hcut
    have hzz : w.heap.size + 3 ≤ wc.heap.size := by have := b2.lt; omega
    obtain ⟨hxz, hxm, hxdn⟩ := hx.num
    obtain ⟨hyz, hym, hydn⟩ := hy.num
    have hXc : HX (hidB X b 3) wc := hX.boxes' hE1 (by have := hzz; omega) hzz
    have k00 := b0.cell 0 rfl
    have k01 := b0.cell 1 rfl
    have k02 := b0.cell 2 rfl
    have k10 := b1.cell 0 rfl
    have k11 := b1.cell 1 rfl
    have k12 := b1.cell 2 rfl
    have hEd : Ext wc wc.drew := (ExtX.refl wc).drew
    have hXd : HX (hidB X b 3) wc.drew := hXc
    have hxd : QC (mk (hidB X b 3) wc.drew) (.agg #[.bool s3, .slice a3 n3 c3, .slice d3 k3 e3]) x := hx
    have hyd : QC (mk (hidB X b 3) wc.drew) (.agg #[.bool s4, .slice a4 n4 c4, .slice d4 k4 e4]) y := hy
    have hxzd : ZC (mk (hidB X b 3) wc.drew) (.agg #[.bool s3, .slice a3 n3 c3]) x.num := hxz
    have hyzd : ZC (mk (hidB X b 3) wc.drew) (.agg #[.bool s4, .slice a4 n4 c4]) y.num := hyz
    have bxn : lg x.num.natAbs ≤ 549755813888 := Nat.le_trans (Nat.le_trans (hq_num x) hlx.out) (by omega)
    have byn : lg y.num.natAbs ≤ 549755813888 := Nat.le_trans (Nat.le_trans (hq_num y) hly.out) (by omega)
    have bxd : lg x.den ≤ 549755813888 := Nat.le_trans (Nat.le_trans (hq_den x) hlx.out) (by omega)
    have byd : lg y.den ≤ 549755813888 := Nat.le_trans (Nat.le_trans (hq_den y) hly.out) (by omega)
    have bp1 : lg (x.num * (y.den : Int)).natAbs ≤ 274877906944 := by rw [Int.natAbs_mul, Int.natAbs_natCast]; have := lg_mul x.num.natAbs y.den; have := hq_num x; have := hq_den y; have := hlx.out; have := hly.out; omega
    have bp2 : lg (y.num * (x.den : Int)).natAbs ≤ 274877906944 := by rw [Int.natAbs_mul, Int.natAbs_natCast]; have := lg_mul y.num.natAbs x.den; have := hq_num y; have := hq_den x; have := hlx.out; have := hly.out; omega
    have bdd : lg (x.den * y.den) ≤ 274877906944 := by have := lg_mul x.den y.den; have := hq_den x; have := hq_den y; have := hlx.out; have := hly.out; omega
    have bnn : lg (x.num * y.num).natAbs ≤ 274877906944 := by rw [Int.natAbs_mul]; have := lg_mul x.num.natAbs y.num.natAbs; have := hq_num x; have := hq_num y; have := hlx.out; have := hly.out; omega
    have bd0 : 0 < x.den * y.den := Nat.mul_pos x.den_pos y.den_pos
    have hB := hid (And.intro b0 b1)
    have hS : Hid (∀ W', Ext wc.drew W' → W'.cell? ⟨b, 0, none⟩ = some (.bool s3) ∧ W'.cell? ⟨b, 1, none⟩ = some (.slice a3 n3 c3) ∧ W'.cell? ⟨b, 2, none⟩ = some (.slice d3 k3 e3) ∧ W'.cell? ⟨b + 1, 0, none⟩ = some (.bool s4) ∧ W'.cell? ⟨b + 1, 1, none⟩ = some (.slice a4 n4 c4) ∧ W'.cell? ⟨b + 1, 2, none⟩ = some (.slice d4 k4 e4)) :=
      hid fun W' h => ⟨(b0.ext0 (hEd.trans h)).cell 0 rfl, (b0.ext0 (hEd.trans h)).cell 1 rfl, (b0.ext0 (hEd.trans h)).cell 2 rfl, (b1.ext0 (hEd.trans h)).cell 0 rfl, (b1.ext0 (hEd.trans h)).cell 1 rfl, (b1.ext0 (hEd.trans h)).cell 2 rfl⟩
    have bqx : hq x ≤ 549755813888 := Nat.le_trans hlx.out (by decide)
    have bqy : hq y ≤ 549755813888 := Nat.le_trans hly.out (by decide)
    have cxn : lg x.num.natAbs ≤ 274877906944 := Nat.le_trans (Nat.le_trans (hq_num x) hlx.out) (by omega)
    have cyn : lg y.num.natAbs ≤ 274877906944 := Nat.le_trans (Nat.le_trans (hq_num y) hly.out) (by omega)
    have cxd : lg (x.den : Int).natAbs ≤ 274877906944 := Nat.le_trans (Nat.le_trans (hq_den x) hlx.out) (by omega)
    have cyd : lg (y.den : Int).natAbs ≤ 274877906944 := Nat.le_trans (Nat.le_trans (hq_den y) hly.out) (by omega)
    have cdd : lg ((x.den : Int) * (y.den : Int)).natAbs ≤ 274877906944 := by rw [← Int.natCast_mul, Int.natAbs_natCast]; exact bdd
    have cd0 : (x.den : Int) * (y.den : Int) ≠ 0 := Int.mul_ne_zero (by have := x.den_nz; omega) (by have := y.den_nz; omega)
    have cp2 : lg ((x.den : Int) * y.num).natAbs ≤ 274877906944 := by rw [Int.mul_comm]; exact bp2
    have cq0 : (x.den : Int) * y.num ≠ 0 := Int.mul_ne_zero (by have := x.den_nz; omega) (fun h => hy0 (Rat.num_eq_zero.1 h))
    have hfin : Hid (((x.num * (y.den : Int) : Int) : Rat) / (((x.den : Int) * y.num : Int) : Rat) = x / y) := hid (by rw [Int.mul_comm (x.den : Int)]; exact div_eq x y)
    go_wp2_with fail
    go_region_held3 (fun w' => w'.cell? ⟨b, 0, none⟩ = some (.bool s3) ∧ w'.cell? ⟨b, 1, none⟩ = some (.slice a3 n3 c3) ∧ w'.cell? ⟨b, 2, none⟩ = some (.slice d3 k3 e3) ∧ w'.cell? ⟨b + 1, 0, none⟩ = some (.bool s4) ∧ w'.cell? ⟨b + 1, 1, none⟩ = some (.slice a4 n4 c4) ∧ w'.cell? ⟨b + 1, 2, none⟩ = some (.slice d4 k4 e4))
      (first | exact hS.out _ t1 | exact hS.out _ t2 | exact hS.out _ t3 | exact hS.out _ t4 | exact hS.out _ t5 | exact ⟨((hB.out.1.ext0 (hEd.trans t5)).ext (bb2.set3 _ _ _).2 (ob_other (by omega))).cell 0 rfl, ((hB.out.1.ext0 (hEd.trans t5)).ext (bb2.set3 _ _ _).2 (ob_other (by omega))).cell 1 rfl, ((hB.out.1.ext0 (hEd.trans t5)).ext (bb2.set3 _ _ _).2 (ob_other (by omega))).cell 2 rfl, ((hB.out.2.ext0 (hEd.trans t5)).ext (bb2.set3 _ _ _).2 (ob_other (by omega))).cell 0 rfl, ((hB.out.2.ext0 (hEd.trans t5)).ext (bb2.set3 _ _ _).2 (ob_other (by omega))).cell 1 rfl, ((hB.out.2.ext0 (hEd.trans t5)).ext (bb2.set3 _ _ _).2 (ob_other (by omega))).cell 2 rfl⟩ | go_keep)
      (first | (go_at_call 115; (with_reducible refine (rqden (hidB X b 3) wc.drew _ y hXd hyd bqy).mono ?_); rintro ee w5 ⟨t1, u5, rfl, hu5⟩; have hX5 := HX.ext hXd t1; have hx5 := mkx ZC.mono hxzd t1) | (go_at_call 114; (with_reducible refine (rimul (hidB X b 3) w5 _ _ x.num (y.den : Int) hX5 (hx5.zv (Nat.le_trans cxn (by decide))) (hu5.zv (Nat.le_trans cyd (by decide))) cxn cyd).mono ?_); rintro ee w6 ⟨hE6, u6, rfl, hu6⟩; have t2 := t1.trans hE6; have hX6 := HX.ext hXd t2; have hx6 := mkx QC.mono hxd t2) | (go_at_call 115; (with_reducible refine (rqden (hidB X b 3) w6 _ x hX6 hx6 bqx).mono ?_); rintro ee w7 ⟨hE7, u7, rfl, hu7⟩; have t3 := t2.trans hE7; have hX7 := HX.ext hXd t3; have hy7 := mkx ZC.mono hyzd t3) | (go_at_call 114; (with_reducible refine (rimul (hidB X b 3) w7 _ _ (x.den : Int) y.num hX7 (hu7.zv (Nat.le_trans cxd (by decide))) (hy7.zv (Nat.le_trans cyn (by decide))) cxd cyn).mono ?_); rintro ee w8 ⟨hE8, u8, rfl, hu8⟩; have t4 := t3.trans hE8; have hX8 := HX.ext hXd t4; have hz6 := mkx ZC.mono hu6 (hE7.trans hE8)) | (go_at_call 113; (with_reducible refine (rqover (hidB X b 3) w8 _ _ _ _ hX8 hz6 hu8 bp1 cp2 cq0).mono ?_); rintro ee w9 ⟨hE9, u9, rfl, hu9⟩; have t5 := t4.trans hE9; obtain ⟨s13, a13, n13, c13, d13, k13, e13, rfl⟩ := hu9.shape; have bb2 := b2.ext0 (hEd.trans t5); have g0 := bb2.cell 0 rfl; have g1 := bb2.cell 1 rfl; have g2 := bb2.cell 2 rfl; have f0 := bb2.frozen 0; have f1 := bb2.frozen 1; have f2 := bb2.frozen 2))
    rw [hfin.out] at hu9
    obtain ⟨r1, r2⟩ := bb2.set3 (.bool s13) (.slice a13 n13 c13) (.slice d13 k13 e13)
    have h7 := QC.mono _ _ _ _ le_unbox (QC.mono _ _ _ _ (le_store r2 (by omega) (by omega)) hu9)
    have hEf : Ext w _ := ExtX.box (hE1.trans (hEd.trans t5)) r2 (by omega)
    clear g0 g1 g2 f0 f1 f2 k00 k01 k02 k10 k11 k12 hS hB
    go_wp2_with fail
    exact bodyPost_ret (results_box rfl rfl stRat r1 rfl) rfl ⟨hEf, _, rfl, h7⟩
end Go.Proofs.YtjbhcniiioepgaaGreat

namespace Go.Proofs.YtjbhcniiioepgaaGreat
open Go.RowKit Go.Rep Go.Lim

set_option maxRecDepth 100000 in
theorem rtimes (X : Nat → Bool) (w : World) (u v : Value) (l : List Rat) (c : Rat) (hX : HX X w) (hu : RV (mk X w) u l) (hv : QV (mk X w) v c) (hl : l.length ≤ 1000000) : Calls Tryz.prog 20 #[u, v] w (ROut X w RC (l.map (· * c))) := by
  obtain ⟨ao, ca, rfl, hca, hsa0⟩ := hu
  have hha := hsa0.hd
  obtain ⟨s2, a2, n2, c2, d2, k2, e2, rfl⟩ := hv.shape
  obtain ⟨W, hW, hEW, b0, hz⟩ := boxes1 w #[.bool s2, .slice a2 n2 c2, .slice d2 k2 e2] 31
  have hXW : HX X W := hX.ext hEW
  have hsa := hsa0.mono QV.mono (mk_ext hEW)
  have hvW := mkx QV.mono hv hEW
  obtain ⟨b, hb⟩ : ∃ b, w.heap.size = b := ⟨_, rfl⟩
  rw [hb] at b0 hz
  obtain ⟨L, hL⟩ : ∃ L, l.map (· * c) = L := ⟨_, rfl⟩
  have hLl : L.length = l.length := by rw [← hL]; simp
  have hLi := hid (show ∀ i (hi : i < l.length) (hi' : i < L.length), L[i] = l[i] * c from fun i hi hi' => by subst hL; simp)
  rw [hL]
  clear hL hsa0 hv
  go_enter Tryz.func20, Tryz.ntmps20
  go_wp2_with fail
  go_loopw [5, 6] (fun o cc wr => ∃ (i : Nat) (oo : Option Addr) (co : Nat), cc = .int .i64 i ∧ o = .slice oo i co ∧ i ≤ l.length ∧ OL QC 3 X W.heap.size 31 wr oo co (L.take i) ∧ Ext W wr) (fun _ cc _ => l.length - (intOf cc).toNat)
  case atStart => exact ⟨0, none, 0, rfl, rfl, Nat.zero_le _, OL.nil _ _ _ _ _ _, ExtX.refl _⟩
  case round =>
    obtain ⟨i, oo, co, rfl, rfl, hi, hO, hE⟩ := hrel
    have hXr : HX X wr := hXW.ext hE
    have hXu : HX (un X oo) wr := hO.unX hXr
    have hbase := hE.size
    by_cases hlt : i < l.length
    · have hsr : Sl QV 3 (mk (un X oo) wr) ao l := hsa.old QV.mono hE (fun j hj => hO.ob_lt hj)
      have hltL : i < L.length := by omega
      have htk := hid (take_snoc L i hltL)
      have hln := hid (len_take (l := L) (i := i) (by omega))
      obtain ⟨g1, o1, s1, a1, n1, c1, d1, k1, e1, hg1, hX1, hc1, hq1⟩ := hsr.rat QV.shaped i hlt
      have hob1 := (un_false hX1).2
      have hobb : ob oo b = false := hO.ob_lt (by omega)
      have i1 : ∀ W, (Instr.indexAt 33 (.slice ao l.length ca) (.int .i64 (i : Int))).run Tryz.prog W = .ok (.pointer (some ⟨g1, o1, none⟩)) W := by rw [← hg1]; exact run_indexAt_adr slRat ao l.length ca .i64 i hha (by omega)
      have hEd : Ext wr wr.drew := (ExtX.refl wr).drew
      have hS : Hid (∀ Y W', ExtX Y wr.drew W' → Y g1 = false → Y b = false → W'.cell? ⟨g1, o1, none⟩ = some (.bool s1) ∧ W'.cell? ⟨g1, o1 + 1, none⟩ = some (.slice a1 n1 c1) ∧ W'.cell? ⟨g1, o1 + 2, none⟩ = some (.slice d1 k1 e1) ∧ W'.cell? ⟨b, 0, none⟩ = some (.bool s2) ∧ W'.cell? ⟨b, 1, none⟩ = some (.slice a2 n2 c2) ∧ W'.cell? ⟨b, 2, none⟩ = some (.slice d2 k2 e2)) := hid fun Y W' h hg hb => by
        have p1 := hc1.out Y W' ((ExtX.of hEd).trans h) hg
        have b1 := (b0.ext0 (hE.trans hEd)).ext h hb
        exact ⟨p1.1, p1.2.1, p1.2.2, b1.cell 0 rfl, b1.cell 1 rfl, b1.cell 2 rfl⟩
      obtain ⟨k00, k01, k02, k10, k11, k12⟩ := hS.out noY wr.drew (ExtX.refl _) rfl rfl
      have hxd : QV (mk (un X oo) wr.drew) (.agg #[.bool s1, .slice a1 n1 c1, .slice d1 k1 e1]) l[i] := hq1
      have hvd : QV (mk (un X oo) wr.drew) (.agg #[.bool s2, .slice a2 n2 c2, .slice d2 k2 e2]) c := old_un QV.mono hvW (hE.trans hEd) (fun j hj => hO.ob_lt hj)
      have hXd : HX (un X oo) wr.drew := hXu
      have hyi := hLi.out i hlt hltL
      rw [hyi] at htk
      clear hc1 hg1 hq1
      go_wp2_with fail
      go_region_held3 (fun w' => w'.cell? ⟨g1, o1, none⟩ = some (.bool s1) ∧ w'.cell? ⟨g1, o1 + 1, none⟩ = some (.slice a1 n1 c1) ∧ w'.cell? ⟨g1, o1 + 2, none⟩ = some (.slice d1 k1 e1) ∧ w'.cell? ⟨b, 0, none⟩ = some (.bool s2) ∧ w'.cell? ⟨b, 1, none⟩ = some (.slice a2 n2 c2) ∧ w'.cell? ⟨b, 2, none⟩ = some (.slice d2 k2 e2))
        (first | exact hS.out noY _ t1 rfl rfl | exact hS.out noY _ (ExtX.alloc t1 _) rfl rfl | exact hS.out (ob oo) _ ((ExtX.of t1).trans hE7) hob1 hobb | go_keep)
        (first | (go_at_call 57; (with_reducible refine (rqmul (un X oo) wr.drew _ _ _ c hXd hxd hvd).mono ?_); rintro ee w6 ⟨t1, u6, rfl, hu6⟩; obtain ⟨s6, a6, n6, c6, d6, k6, e6, rfl⟩ := hu6.shape; have hO6 := hO.ext0 QC.elem (hEd.trans t1); have hb6 := (hEd.trans t1).size; have hX6 := hXr.ext (hEd.trans t1)) | (refine step_append1 (l := L.take i) rfl (by rfl) slRat rfl QC.elem (by omega) hX6 i hln.out rfl rfl hO6 (.agg #[.bool s6, .slice a6 n6 c6, .slice d6 k6 e6]) (l[i] * c) rfl hu6 (by omega) (by omega) ?_; intro oo2 co2 w7 hO7 hE7 hor))
      have hE8 := (hE.trans (hEd.trans t1)).own hO6 (Nat.le_refl _) hE7
      rw [htk.out] at hO7
      clear k00 k01 k02 k10 k11 k12
      go_wp2_with fail
      go_roundw
      case rel => exact ⟨i + 1, oo2, co2, by go_num, by go_num, by omega, hO7, hE8⟩
      case measure => simp [intOf]; omega
    · have hil : i = l.length := by omega
      subst hil
      rw [List.take_of_length_le (by omega)] at hO
      have hc := hO.lenCap
      have hs := hO.sl QC.elem
      go_wp2_with fail
      go_ret
      exact ⟨hEW.trans hE, _, rfl, oo, co, by rw [hLl]; rfl, hc, hs⟩

set_option maxRecDepth 100000 in
theorem rplus (X : Nat → Bool) (w : World) (u v : Value) (l m : List Rat) (hX : HX X w) (hu : RV (mk X w) u l) (hv : RV (mk X w) v m) (hl : l.length ≤ 1000000) (hml : m.length = l.length) : Calls Tryz.prog 80 #[u, v] w (ROut X w RC (List.zipWith (· + ·) l m)) := by
  obtain ⟨ao, ca, rfl, hca, hsa⟩ := hu
  have hha := hsa.hd
  obtain ⟨bo, cb, rfl, hcb, hsb⟩ := hv
  have hhb := hsb.hd
  have hml1 : m.length ≤ l.length := by omega
  have hml2 : l.length ≤ m.length := by omega
  obtain ⟨L, hL⟩ : ∃ L, List.zipWith (· + ·) l m = L := ⟨_, rfl⟩
  have hLl : L.length = l.length := by rw [← hL]; simp; omega
  have hLi := hid (show ∀ i (hi : i < l.length) (hj : i < m.length) (hi' : i < L.length), L[i] = l[i] + m[i] from fun i hi hj hi' => by subst hL; simp)
  rw [hL]
  have hLl1 : L.length ≤ l.length := by omega
  have hLl2 : l.length ≤ L.length := by omega
  have hLl' := hid hLl
  clear hL hml hLl
  go_enter Tryz.func80, Tryz.ntmps80
  go_wp2_with fail
  go_loopw [5, 6] (fun o cc wr => ∃ (i : Nat) (oo : Option Addr) (co : Nat), cc = .int .i64 i ∧ o = .slice oo i co ∧ i ≤ l.length ∧ OL QC 3 X w.heap.size 31 wr oo co (L.take i) ∧ Ext w wr) (fun _ cc _ => l.length - (intOf cc).toNat)
  case atStart => exact ⟨0, none, 0, rfl, rfl, Nat.zero_le _, OL.nil _ _ _ _ _ _, ExtX.refl _⟩
  case round =>
    obtain ⟨i, oo, co, rfl, rfl, hi, hO, hE⟩ := hrel
    have hXr : HX X wr := hX.ext hE
    have hXu : HX (un X oo) wr := hO.unX hXr
    have hbase := hE.size
    by_cases hlt : i < l.length
    · have hsr : Sl QV 3 (mk (un X oo) wr) ao l := hsa.old QV.mono hE (fun j hj => hO.ob_lt hj)
      have hltL : i < L.length := by omega
      have htk := hid (take_snoc L i hltL)
      have hln := hid (len_take (l := L) (i := i) (by omega))
      have hltm : i < m.length := by omega
      have hsr2 : Sl QV 3 (mk (un X oo) wr) bo m := hsb.old QV.mono hE (fun j hj => hO.ob_lt hj)
      obtain ⟨g2, o2, s2, a2, n2, c2, d2, k2, e2, hg2, hX2, hc2, hq2⟩ := hsr2.rat QV.shaped i hltm
      obtain ⟨g1, o1, s1, a1, n1, c1, d1, k1, e1, hg1, hX1, hc1, hq1⟩ := hsr.rat QV.shaped i hlt
      have hob1 := (un_false hX1).2
      have hobb := (un_false hX2).2
      have i2 : ∀ W, (Instr.indexAt 33 (.slice bo m.length cb) (.int .i64 (i : Int))).run Tryz.prog W = .ok (.pointer (some ⟨g2, o2, none⟩)) W := by rw [← hg2]; exact run_indexAt_adr slRat bo m.length cb .i64 i hhb (by omega)
      have i1 : ∀ W, (Instr.indexAt 33 (.slice ao l.length ca) (.int .i64 (i : Int))).run Tryz.prog W = .ok (.pointer (some ⟨g1, o1, none⟩)) W := by rw [← hg1]; exact run_indexAt_adr slRat ao l.length ca .i64 i hha (by omega)
      have hEd : Ext wr wr.drew := (ExtX.refl wr).drew
      have hS : Hid (∀ Y W', ExtX Y wr.drew W' → Y g1 = false → Y g2 = false → W'.cell? ⟨g1, o1, none⟩ = some (.bool s1) ∧ W'.cell? ⟨g1, o1 + 1, none⟩ = some (.slice a1 n1 c1) ∧ W'.cell? ⟨g1, o1 + 2, none⟩ = some (.slice d1 k1 e1) ∧ W'.cell? ⟨g2, o2, none⟩ = some (.bool s2) ∧ W'.cell? ⟨g2, o2 + 1, none⟩ = some (.slice a2 n2 c2) ∧ W'.cell? ⟨g2, o2 + 2, none⟩ = some (.slice d2 k2 e2)) := hid fun Y W' h hg hb => by
        have p1 := hc1.out Y W' ((ExtX.of hEd).trans h) hg
        have p2 := hc2.out Y W' ((ExtX.of hEd).trans h) hb
        exact ⟨p1.1, p1.2.1, p1.2.2, p2.1, p2.2.1, p2.2.2⟩
      obtain ⟨k00, k01, k02, k10, k11, k12⟩ := hS.out noY wr.drew (ExtX.refl _) rfl rfl
      have hxd : QV (mk (un X oo) wr.drew) (.agg #[.bool s1, .slice a1 n1 c1, .slice d1 k1 e1]) l[i] := hq1
      have hvd : QV (mk (un X oo) wr.drew) (.agg #[.bool s2, .slice a2 n2 c2, .slice d2 k2 e2]) m[i] := hq2
      have hXd : HX (un X oo) wr.drew := hXu
      have hyi := hLi.out i hlt hltm hltL
      rw [hyi] at htk
      clear hc1 hg1 hq1 hc2 hg2 hq2
      go_wp2_with fail
      go_region_held3 (fun w' => w'.cell? ⟨g1, o1, none⟩ = some (.bool s1) ∧ w'.cell? ⟨g1, o1 + 1, none⟩ = some (.slice a1 n1 c1) ∧ w'.cell? ⟨g1, o1 + 2, none⟩ = some (.slice d1 k1 e1) ∧ w'.cell? ⟨g2, o2, none⟩ = some (.bool s2) ∧ w'.cell? ⟨g2, o2 + 1, none⟩ = some (.slice a2 n2 c2) ∧ w'.cell? ⟨g2, o2 + 2, none⟩ = some (.slice d2 k2 e2))
        (first | exact hS.out noY _ t1 rfl rfl | exact hS.out noY _ (ExtX.alloc t1 _) rfl rfl | exact hS.out (ob oo) _ ((ExtX.of t1).trans hE7) hob1 hobb | go_keep)
        (first | (go_at_call 87; (with_reducible refine (rqadd (un X oo) wr.drew _ _ _ _ hXd hxd hvd).mono ?_); rintro ee w6 ⟨t1, u6, rfl, hu6⟩; obtain ⟨s6, a6, n6, c6, d6, k6, e6, rfl⟩ := hu6.shape; have hO6 := hO.ext0 QC.elem (hEd.trans t1); have hb6 := (hEd.trans t1).size; have hX6 := hXr.ext (hEd.trans t1)) | (refine step_append1 (l := L.take i) rfl (by rfl) slRat rfl QC.elem (by omega) hX6 i hln.out rfl rfl hO6 (.agg #[.bool s6, .slice a6 n6 c6, .slice d6 k6 e6]) (l[i] + m[i]) rfl hu6 (by omega) (by omega) ?_; intro oo2 co2 w7 hO7 hE7 hor))
      have hE8 := (hE.trans (hEd.trans t1)).own hO6 (Nat.le_refl _) hE7
      rw [htk.out] at hO7
      clear k00 k01 k02 k10 k11 k12
      go_wp2_with fail
      go_roundw
      case rel => exact ⟨i + 1, oo2, co2, by go_num, by go_num, by omega, hO7, hE8⟩
      case measure => simp [intOf]; omega
    · have hil : i = l.length := by omega
      subst hil
      rw [List.take_of_length_le (by omega)] at hO
      have hc := hO.lenCap
      have hs := hO.sl QC.elem
      go_wp2_with fail
      go_ret
      exact ⟨hE, _, rfl, oo, co, by rw [hLl'.out]; rfl, hc, hs⟩
end Go.Proofs.YtjbhcniiioepgaaGreat

namespace Go.Lin
open Go.Lim
/-- The number that 'made.Number' makes. -/
def numQ (v : Int) : Rat := ((v % 61 - 30 : Int) : Rat) / ((1 + (v.tdiv 61) % 4 : Int) : Rat)
def atL (l : List Int) (i : Nat) : Int := l.getD i 0
/-- The matrix that 'made.Matrix' makes. -/
def matL (r c : Nat) (raw : List Int) : List (List Rat) := (List.range r).map fun i => (List.range c).map fun j => numQ (atL raw (i * c + j))
theorem lg_small {n : Nat} (h : n < 100) : lg n ≤ 1 := by
  by_cases h0 : n = 0
  · subst h0; simp [lg_zero]
  · rw [lg_one_iff (by omega) (by omega)]; exact Nat.le_refl _
theorem numQ_hq (v : Int) : hq (numQ v) ≤ 2 := by
  refine Nat.le_trans (hq_div _ _) ?_
  have h1 := hq_int (v % 61 - 30) 1 (lg_small (by omega)) (by omega)
  have h2 := hq_int (1 + (v.tdiv 61) % 4) 1 (lg_small (by omega)) (by omega)
  omega
end Go.Lin
namespace Go.Proofs.YtjbhcniiioepgaaGreat
open Go.RowKit Go.Rep Go.Lim Go.Lin

theorem tmod_ge {k n : Int} (h3 : 0 < n) (h : ¬ k.tmod n < 0) : k.tmod n = k % n := by
  have h1 := Int.emod_add_mul_ediv k n
  have he := Int.emod_nonneg k (show n ≠ 0 by omega)
  have he2 := Int.emod_lt_of_pos k h3
  rw [Int.tmod_eq_emod] at h ⊢
  split
  · simp
  · rename_i h0
    rw [if_neg h0] at h
    omega
theorem tmod_lt {k n : Int} (h3 : 0 < n) (h : k.tmod n < 0) : k.tmod n + n = k % n := by
  have he := Int.emod_nonneg k (show n ≠ 0 by omega)
  rw [Int.tmod_eq_emod] at h ⊢
  split
  · rename_i h0; rw [if_pos h0] at h; omega
  · omega

theorem mod_any (w : World) (k n : Int) (h3 : 0 < n) (h4 : n ≤ 1000000) : Calls Tryz.prog 15 #[.int .i64 k, .int .i64 n] w (fun e w' => w' = w ∧ e = .returned (.int .i64 (k % n))) := by
  have hn0 : (n == 0) = false := beqF (by omega)
  have he := Int.emod_nonneg k (show n ≠ 0 by omega)
  have he2 := Int.emod_lt_of_pos k h3
  by_cases h : k.tmod n < 0
  · have hr := hid (tmod_lt h3 h)
    have hw : wrap64 (k.tmod n + n) = k.tmod n + n := IntWalk.wrap64_in _ (by rw [hr.out]; omega)
    clear he he2
    go_enter Tryz.func15, Tryz.ntmps15
    go_wp2_with fail
    go_ret
    exact ⟨rfl, ret_int (by first | (rw [hw]; exact hr.out) | exact hr.out)⟩
  · have hr := hid (tmod_ge h3 h)
    clear he he2
    go_enter Tryz.func15, Tryz.ntmps15
    go_wp2_with fail
    go_ret
    exact ⟨rfl, ret_int hr.out⟩

theorem at_any (X : Nat → Bool) (w : World) (ao : Option Addr) (l : List Int) (cap i : Nat) (hs : Sl (IntIn .i64) 1 (mk X w) ao l) (hi : i ≤ 1000000) : Calls Tryz.prog 59 #[.slice ao l.length cap, .int .i64 (i : Int)] w (fun e w' => w' = w ∧ e = .returned (.int .i64 (atL l i))) := by
  have hh := hs.hd
  by_cases h : i < l.length
  · have c1 := hs.int i h
    have hv : Hid (l[i] = atL l i) := hid (by simp [atL, List.getD_eq_getElem?_getD, h])
    have hI : (i : Int) < (l.length : Int) := by omega
    go_enter Tryz.func59, Tryz.ntmps59
    go_wp2_with (with_reducible refine up_ix1 slInt (by omega) (by assumption) ?_)
    go_ret
    exact ⟨rfl, ret_int hv.out⟩
  · have hv : Hid ((0 : Int) = atL l i) := hid (by simp [atL, List.getD_eq_getElem?_getD, h])
    have hI : ¬ (i : Int) < (l.length : Int) := by omega
    go_enter Tryz.func59, Tryz.ntmps59
    go_wp2_with fail
    go_ret
    exact ⟨rfl, ret_int hv.out⟩
end Go.Proofs.YtjbhcniiioepgaaGreat

namespace Go.Proofs.YtjbhcniiioepgaaGreat
open Go.RowKit Go.Rep Go.Lim

set_option maxRecDepth 100000 in
theorem rqsub (X : Nat → Bool) (w : World) (u v : Value) (x y : Rat) (hX : HX X w) (hu : QV (mk X w) u x) (hv : QV (mk X w) v y) : Calls Tryz.prog 76 #[u, v] w (ROut X w QC (x - y)) := by
  have hlx := hid hu.hq
  have hly := hid hv.hq
  obtain ⟨s1, a1, n1, c1, d1, k1, e1, rfl⟩ := hu.shape
  obtain ⟨s2, a2, n2, c2, d2, k2, e2, rfl⟩ := hv.shape
  obtain ⟨W, hW, hE, b0, b1, b2, hz⟩ := boxes3 w #[.bool s1, .slice a1 n1 c1, .slice d1 k1 e1] #[.bool s2, .slice a2 n2 c2, .slice d2 k2 e2] #[.bool false, .slice none 0 0, .slice none 0 0] 31 31 31
  have hXW : HX (hidB X w.heap.size 3) W := hX.boxes hz
  have hu1 := QV.mono _ _ _ _ (le_boxes (nb := 3) hE) hu
  have hv1 := QV.mono _ _ _ _ (le_boxes (nb := 3) hE) hv
  obtain ⟨b, hb⟩ : ∃ b, w.heap.size = b := ⟨_, rfl⟩
  have hbw : w.heap.size ≤ b := by omega
  rw [hb] at b0 b1 b2 hz hXW hu1 hv1
  have hEd : Ext W W.drew := (ExtX.refl W).drew
  have hXd : HX (hidB X b 3) W.drew := hXW
  have hud : QV (mk (hidB X b 3) W.drew) (.agg #[.bool s1, .slice a1 n1 c1, .slice d1 k1 e1]) x := hu1
  have hvd : QV (mk (hidB X b 3) W.drew) (.agg #[.bool s2, .slice a2 n2 c2, .slice d2 k2 e2]) y := hv1
  have k00 := b0.cell 0 rfl
  have k01 := b0.cell 1 rfl
  have k02 := b0.cell 2 rfl
  have k10 := b1.cell 0 rfl
  have k11 := b1.cell 1 rfl
  have k12 := b1.cell 2 rfl
  clear hu hv
  have hB := hid (And.intro b0 b1)
  have hS : Hid (∀ W', Ext W.drew W' → W'.cell? ⟨b, 0, none⟩ = some (.bool s1) ∧ W'.cell? ⟨b, 1, none⟩ = some (.slice a1 n1 c1) ∧ W'.cell? ⟨b, 2, none⟩ = some (.slice d1 k1 e1) ∧ W'.cell? ⟨b + 1, 0, none⟩ = some (.bool s2) ∧ W'.cell? ⟨b + 1, 1, none⟩ = some (.slice a2 n2 c2) ∧ W'.cell? ⟨b + 1, 2, none⟩ = some (.slice d2 k2 e2)) :=
    hid fun W' h => ⟨(b0.ext0 (hEd.trans h)).cell 0 rfl, (b0.ext0 (hEd.trans h)).cell 1 rfl, (b0.ext0 (hEd.trans h)).cell 2 rfl, (b1.ext0 (hEd.trans h)).cell 0 rfl, (b1.ext0 (hEd.trans h)).cell 1 rfl, (b1.ext0 (hEd.trans h)).cell 2 rfl⟩
  have hny := hid (show hq (-y) ≤ 68719476736 by rw [hq_neg]; exact hly.out)
  have hsum : Hid (x + -y = x - y) := hid (Rat.sub_eq_add_neg x y).symm
  go_enter Tryz.func76, Tryz.ntmps76
  go_upto_region 1 with (fail)
  go_region_held3 (fun w' => w'.cell? ⟨b, 0, none⟩ = some (.bool s1) ∧ w'.cell? ⟨b, 1, none⟩ = some (.slice a1 n1 c1) ∧ w'.cell? ⟨b, 2, none⟩ = some (.slice d1 k1 e1) ∧ w'.cell? ⟨b + 1, 0, none⟩ = some (.bool s2) ∧ w'.cell? ⟨b + 1, 1, none⟩ = some (.slice a2 n2 c2) ∧ w'.cell? ⟨b + 1, 2, none⟩ = some (.slice d2 k2 e2))
    (first | exact hS.out _ t1 | exact hS.out _ t2 | exact ⟨((hB.out.1.ext0 (hEd.trans t2)).ext (bb2.set3 _ _ _).2 (ob_other (by omega))).cell 0 rfl, ((hB.out.1.ext0 (hEd.trans t2)).ext (bb2.set3 _ _ _).2 (ob_other (by omega))).cell 1 rfl, ((hB.out.1.ext0 (hEd.trans t2)).ext (bb2.set3 _ _ _).2 (ob_other (by omega))).cell 2 rfl, ((hB.out.2.ext0 (hEd.trans t2)).ext (bb2.set3 _ _ _).2 (ob_other (by omega))).cell 0 rfl, ((hB.out.2.ext0 (hEd.trans t2)).ext (bb2.set3 _ _ _).2 (ob_other (by omega))).cell 1 rfl, ((hB.out.2.ext0 (hEd.trans t2)).ext (bb2.set3 _ _ _).2 (ob_other (by omega))).cell 2 rfl⟩ | go_keep)
    (first | (go_at_call 112; (with_reducible refine (rqneg (hidB X b 3) W.drew _ y hXd hvd).mono ?_); rintro ee w5 ⟨t1, u5, rfl, hu5⟩; have hX5 := HX.ext hXd t1; have hx5 := mkx QV.mono hud t1) | (go_at_call 87; (with_reducible refine (rqadd (hidB X b 3) w5 _ _ x (-y) hX5 hx5 (hu5.qv hny.out)).mono ?_); rintro ee w6 ⟨hE6, u6, rfl, hu6⟩; obtain ⟨s6, a6, n6, c6, d6, k6, e6, rfl⟩ := hu6.shape; have t2 := t1.trans hE6; have bb2 := b2.ext0 (hEd.trans t2); have g0 := bb2.cell 0 rfl; have g1 := bb2.cell 1 rfl; have g2 := bb2.cell 2 rfl; have f0 := bb2.frozen 0; have f1 := bb2.frozen 1; have f2 := bb2.frozen 2))
  rw [hsum.out] at hu6
  obtain ⟨q1, q2⟩ := bb2.set3 (.bool s6) (.slice a6 n6 c6) (.slice d6 k6 e6)
  have h7 := QC.mono _ _ _ _ le_unbox (QC.mono _ _ _ _ (le_store q2 (by omega) (by omega)) hu6)
  have hEf : Ext w _ := ExtX.box (hE.trans (hEd.trans t2)) q2 (by omega)
  clear g0 g1 g2 f0 f1 f2 k00 k01 k02 k10 k11 k12 hS hB
  go_wp2_with fail
  exact bodyPost_ret (results_box rfl rfl stRat q1 rfl) rfl ⟨hEf, _, rfl, h7⟩

set_option maxRecDepth 100000 in
theorem rqcompare (X : Nat → Bool) (w : World) (u v : Value) (x y : Rat) (hX : HX X w) (hu : QV (mk X w) u x) (hv : QV (mk X w) v y) (hxy : hq (x - y) ≤ 68719476736) : Calls Tryz.prog 125 #[u, v] w (IntOut w (x - y).num.sign) := by
  have hlx := hid hu.hq
  have hly := hid hv.hq
  obtain ⟨s1, a1, n1, c1, d1, k1, e1, rfl⟩ := hu.shape
  obtain ⟨s2, a2, n2, c2, d2, k2, e2, rfl⟩ := hv.shape
  obtain ⟨W, hW, hE, b0, b1, hz⟩ := boxes2 w #[.bool s1, .slice a1 n1 c1, .slice d1 k1 e1] #[.bool s2, .slice a2 n2 c2, .slice d2 k2 e2] 31 31
  have hXW : HX (hidB X w.heap.size 2) W := hX.boxes hz
  have hu1 := QV.mono _ _ _ _ (le_boxes (nb := 2) hE) hu
  have hv1 := QV.mono _ _ _ _ (le_boxes (nb := 2) hE) hv
  obtain ⟨b, hb⟩ : ∃ b, w.heap.size = b := ⟨_, rfl⟩
  have hbw : w.heap.size ≤ b := by omega
  rw [hb] at b0 b1 hz hXW hu1 hv1
  have hEd : Ext W W.drew := (ExtX.refl W).drew
  have hXd : HX (hidB X b 2) W.drew := hXW
  have hud : QV (mk (hidB X b 2) W.drew) (.agg #[.bool s1, .slice a1 n1 c1, .slice d1 k1 e1]) x := hu1
  have hvd : QV (mk (hidB X b 2) W.drew) (.agg #[.bool s2, .slice a2 n2 c2, .slice d2 k2 e2]) y := hv1
  have k00 := b0.cell 0 rfl
  have k01 := b0.cell 1 rfl
  have k02 := b0.cell 2 rfl
  have k10 := b1.cell 0 rfl
  have k11 := b1.cell 1 rfl
  have k12 := b1.cell 2 rfl
  clear hu hv
  replace hxy := hid hxy
  obtain ⟨q, hq'⟩ : ∃ q : Rat, x - y = q := ⟨_, rfl⟩
  rw [hq'] at hxy ⊢
  have hq2 := hid hq'
  clear hq'
  go_enter Tryz.func125, Tryz.ntmps125
  go_wp2_with fail
  refine (rqsub (hidB X b 2) W _ _ x y hXW hu1 hv1).mono ?_
  rintro e w5 ⟨hE5, u5, rfl, hu5⟩
  rw [hq2.out] at hu5
  obtain ⟨s5, a5, n5, c5, d5, k5, e5, rfl⟩ := hu5.shape
  clear k00 k01 k02 k10 k11 k12
  go_wp2_with fail
  refine (rqsign (hidB X b 2) w5 _ q (hXW.ext hE5) (hu5.qv hxy.out)).mono ?_
  rintro e w6 ⟨hE6, rfl⟩
  go_wp2_with fail
  go_ret
  exact ⟨hE.trans (hE5.trans hE6), rfl⟩

set_option maxRecDepth 100000 in
theorem rqfraction (X : Nat → Bool) (w : World) (a k : Int) (hX : HX X w) (h1 : -9223372036854775808 ≤ a) (h2 : a ≤ 9223372036854775807) (h3 : -9223372036854775808 ≤ k) (h4 : k ≤ 9223372036854775807) (hk : k ≠ 0) (ha : lg a.natAbs ≤ 274877906944) (hkl : lg k.natAbs ≤ 274877906944) : Calls Tryz.prog 79 #[.int .i64 a, .int .i64 k] w (ROut X w QC ((a : Rat) / (k : Rat))) := by
  obtain ⟨W, hW, hE, b0, hz⟩ := boxes1 w #[.bool false, .slice none 0 0, .slice none 0 0] 31
  have hXW : HX (hidB X w.heap.size 1) W := hX.boxes hz
  obtain ⟨b, hb⟩ : ∃ b, w.heap.size = b := ⟨_, rfl⟩
  have hbw : w.heap.size ≤ b := by omega
  rw [hb] at b0 hz hXW
  have hI := hid (And.intro (And.intro h1 h2) (And.intro (And.intro h3 h4) (And.intro hk (And.intro ha hkl))))
  clear h1 h2 h3 h4 hk ha hkl
  go_enter Tryz.func79, Tryz.ntmps79
  go_wp2_with fail
  refine (rifrom (hidB X b 1) W a hXW hI.out.1.1 hI.out.1.2).mono ?_
  rintro e1 w1 ⟨hE1, u1, rfl, hu1⟩
  have hX1 := hXW.ext hE1
  go_wp2_with fail
  refine (rifrom (hidB X b 1) w1 k hX1 hI.out.2.1.1 hI.out.2.1.2).mono ?_
  rintro e2 w2 ⟨hE2, u2, rfl, hu2⟩
  go_wp2_with fail
  refine (rqover (hidB X b 1) w2 _ _ a k (hX1.ext hE2) (mkx ZC.mono hu1 hE2) hu2 hI.out.2.2.2.1 hI.out.2.2.2.2 hI.out.2.2.1).mono ?_
  rintro e3 w3 ⟨hE3, u3, rfl, hu3⟩
  obtain ⟨s5, a5, n5, c5, d5, k5, e5, rfl⟩ := hu3.shape
  have bb := ((b0.ext0 hE1).ext0 hE2).ext0 hE3
  go_wp2_with ((with_reducible show wpList _ _ _ (⟨_, .store _ _ _, _, _, _, _⟩ :: _) _ _); refine st_storeBox stRat rfl rfl bb rfl rfl (one3 _ _ _ _ _ _ _) ?_; intro w7 r1 r2)
  have h7 := QC.mono _ _ _ _ le_unbox (QC.mono _ _ _ _ (le_store r2 (by omega) (by omega)) hu3)
  exact bodyPost_ret (results_box rfl rfl stRat r1 rfl) rfl ⟨ExtX.box (hE.trans (hE1.trans (hE2.trans hE3))) r2 (by omega), _, rfl, h7⟩
end Go.Proofs.YtjbhcniiioepgaaGreat
