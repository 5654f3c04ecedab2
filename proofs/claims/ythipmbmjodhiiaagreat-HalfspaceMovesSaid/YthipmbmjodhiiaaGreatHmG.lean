/- reference 03: Add, Mul, Quo. Conditions: at most 2^36 digits. reference 06: Times, Plus. Conditions: at most 2^20 numbers of at most 2^36 digits. made: Mod, At, Number. Conditions: none but Go's own. reference 03: Sub, Compare, Fraction, Same. Conditions: at most 2^36 digits. made: Number, Matrix. Conditions: few rows and columns. reference 06: Take; made: Matrix, Vector, Sum. Conditions: at most 2^20 rows and columns. matrix: formed, columns. Conditions: lengths far below any machine's. exact: Same, Points. halfspace: fits. Conditions: lengths far below any machine's. Products of rows and matrices, the transposed matrix, over lists. Conditions: none. Counting by directions over lists: what both texts' Count return; bounds. Conditions: none. The ascending lists of h of the integers from lo to lo + m - 1, in lexicographic order. Plain mathematics. Conditions: none. halfspace: zero, unit. exact: Rows of lists. Conditions: at most 1000 rows and columns. exact: Rows of lists of lists. Conditions: at most 1000 rows. The search for the depth over lists: its steps as the program takes them. Conditions: none. The search for the depth, round by round: counts of prefixes, signs, one column; what one round of either text leaves. Conditions: none. Matrices that a call has made itself, row by row, and writes into: what they are, and what each step leaves of them. Conditions: none. Stores into rows and matrices that a call has made itself, as the walk writes them; readings beside them. Conditions: none. matrix: zero. Conditions: few rows and columns. matrix: copied. Conditions: few rows and columns. Elements of rows that a call has made itself: loads. Conditions: none. -/
import Derived.Test.YthipmbmjodhiiaaGreatHmF
namespace Go.Proofs.YthipmbmjodhiiaaGreat
open Go.RowKit Go.Rep Go.Lim

set_option maxRecDepth 100000 in
set_option maxHeartbeats 1600000 in
theorem rqadd (X : Nat → Bool) (w : World) (u v : Value) (x y : Rat) (hX : HX X w) (hu : QV (mk X w) u x) (hv : QV (mk X w) v y) : Calls Tryz.prog 48 #[u, v] w (ROut X w QC (x + y)) := by
  have hlx := hid hu.hq
  have hly := hid hv.hq
  obtain ⟨s1, a1, n1, c1, d1, k1, e1, rfl⟩ := hu.shape
  obtain ⟨s2, a2, n2, c2, d2, k2, e2, rfl⟩ := hv.shape
  obtain ⟨W, hW, hE, b0, b1, b2, hz⟩ := boxes3 w #[.bool s1, .slice a1 n1 c1, .slice d1 k1 e1] #[.bool s2, .slice a2 n2 c2, .slice d2 k2 e2] #[.bool false, .slice none 0 0, .slice none 0 0] 34 34 34
  have hXW : HX (hidB X w.heap.size 3) W := hX.boxes hz
  have hu1 := QV.mono _ _ _ _ (le_boxes (nb := 3) hE) hu
  have hv1 := QV.mono _ _ _ _ (le_boxes (nb := 3) hE) hv
  obtain ⟨b, hb⟩ : ∃ b, w.heap.size = b := ⟨_, rfl⟩
  have hbw : w.heap.size ≤ b := by omega
  rw [hb] at b0 b1 b2 hz hXW hu1 hv1
  have hEd : Ext W W.drew := (ExtX.refl W).drew
  have hXd : HX (hidB X b 3) W.drew := hXW
  have hud : QV (mk (hidB X b 3) W.drew) (.agg #[.bool s1, .slice a1 n1 c1, .slice d1 k1 e1]) x := hu1
  have hvd : QV (mk (hidB X b 3) W.drew) (.agg #[.bool s2, .slice a2 n2 c2, .slice d2 k2 e2]) y := hv1
  have k00 := b0.cell 0 rfl
  have k01 := b0.cell 1 rfl
  have k02 := b0.cell 2 rfl
  have k10 := b1.cell 0 rfl
  have k11 := b1.cell 1 rfl
  have k12 := b1.cell 2 rfl
  clear hu hv
  go_enter Tryz.func48, Tryz.ntmps48
  go_upto_region 1 with (fail)
  go_cut [] from 5 to 8 (fun wx => ∃ s3 a3 n3 c3 d3 k3 e3 s4 a4 n4 c4 d4 k4 e4, Bx wx b #[.bool s3, .slice a3 n3 c3, .slice d3 k3 e3] 34 ∧ Bx wx (b + 1) #[.bool s4, .slice a4 n4 c4, .slice d4 k4 e4] 34 ∧ Bx wx (b + 1 + 1) #[.bool false, .slice none 0 0, .slice none 0 0] 34 ∧ QC (mk (hidB X b 3) wx) (.agg #[.bool s3, .slice a3 n3 c3, .slice d3 k3 e3]) x ∧ QC (mk (hidB X b 3) wx) (.agg #[.bool s4, .slice a4 n4 c4, .slice d4 k4 e4]) y ∧ Ext w wx)
  case first =>
    go_region_with (first | (go_at_call 51; (with_reducible refine (rqtake (hidB X b 3) W.drew _ x hXd hud).mono ?_); rintro ee w5 ⟨hE5, u5, rfl, hq5⟩; obtain ⟨s5, a5, n5, c5, d5, k5, e5, rfl⟩ := hq5.shape; have bb0 := b0.ext0 (hEd.trans hE5); have bb1 := b1.ext0 (hEd.trans hE5); have e00 := bb0.cell 0 rfl; have e01 := bb0.cell 1 rfl; have e02 := bb0.cell 2 rfl; have e10 := bb1.cell 0 rfl; have e11 := bb1.cell 1 rfl; have e12 := bb1.cell 2 rfl) | (go_at_call 51; (with_reducible refine (rqtake (hidB X b 3) w5 _ y (HX.ext hXd hE5) (mkx QV.mono hvd hE5)).mono ?_); rintro ee w6 ⟨hE6, u6, rfl, hq6⟩; obtain ⟨s6, a6, n6, c6, d6, k6, e6, rfl⟩ := hq6.shape; have bb2 := bb0.ext0 hE6; have bb3 := bb1.ext0 hE6; have g00 := bb2.cell 0 rfl; have g01 := bb2.cell 1 rfl; have g02 := bb2.cell 2 rfl; have g10 := bb3.cell 0 rfl; have g11 := bb3.cell 1 rfl; have g12 := bb3.cell 2 rfl; have fr0 := bb2.frozen 0; have fr1 := bb2.frozen 1; have fr4 := bb2.frozen 2; have fr2 := bb3.frozen 0; have fr3 := bb3.frozen 1; have fr5 := bb3.frozen 2))
    all_goals
      obtain ⟨wf, hwf, q0, q1, q2, q3, q4⟩ := two_stores3 (X := X) (nb := 3) bb2 bb3 (hE.trans ((hEd.trans hE5).trans hE6)) hbw (by omega) (.bool s5) (.slice a5 n5 c5) (.slice d5 k5 e5) (.bool s6) (.slice a6 n6 c6) (.slice d6 k6 e6)
      rw [hwf]
      have hfx : QC (mk (hidB X b 3) wf) (.agg #[.bool s5, .slice a5 n5 c5, .slice d5 k5 e5]) x := QC.mono _ _ _ _ q4 (mkx QC.mono hq5 hE6)
      have hfy : QC (mk (hidB X b 3) wf) (.agg #[.bool s6, .slice a6 n6 c6, .slice d6 k6 e6]) y := QC.mono _ _ _ _ q4 hq6
      have q5 := q2 (b + 1 + 1) _ _ (by omega) (by omega) ((b2.ext0 (hEd.trans hE5)).ext0 hE6)
      clear e00 e01 e02 e10 e11 e12 g00 g01 g02 g10 g11 g12 fr0 fr1 fr2 fr3 fr4 fr5 k00 k01 k02 k10 k11 k12 hwf
      go_wp2_with fail
      go_meet
      exact ⟨_, _, _, _, _, _, _, _, _, _, _, _, _, _, q0, q1, q5, hfx, hfy, q3⟩
  case rest =>
    clear k00 k01 k02 k10 k11 k12 b0 b1 b2 hu1 hv1 hud hvd hXd hEd hW
    obtain ⟨s3, a3, n3, c3, d3, k3, e3, s4, a4, n4, c4, d4, k4, e4, b0, b1, b2, hx, hy, hE1⟩ := hcut
    have hzz : w.heap.size + 3 ≤ wc.heap.size := by have := b2.lt; omega
    obtain ⟨hxz, hxm, hxdn⟩ := hx.num
    obtain ⟨hyz, hym, hydn⟩ := hy.num
    have hXc : HX (hidB X b 3) wc := hX.boxes' hE1 (by have := hzz; omega) hzz
    have k00 := b0.cell 0 rfl
    have k01 := b0.cell 1 rfl
    have k02 := b0.cell 2 rfl
    have k10 := b1.cell 0 rfl
    have k11 := b1.cell 1 rfl
    have k12 := b1.cell 2 rfl
    have hEd : Ext wc wc.drew := (ExtX.refl wc).drew
    have hXd : HX (hidB X b 3) wc.drew := hXc
    have hxd : QC (mk (hidB X b 3) wc.drew) (.agg #[.bool s3, .slice a3 n3 c3, .slice d3 k3 e3]) x := hx
    have hyd : QC (mk (hidB X b 3) wc.drew) (.agg #[.bool s4, .slice a4 n4 c4, .slice d4 k4 e4]) y := hy
    have hxzd : ZC (mk (hidB X b 3) wc.drew) (.agg #[.bool s3, .slice a3 n3 c3]) x.num := hxz
    have hyzd : ZC (mk (hidB X b 3) wc.drew) (.agg #[.bool s4, .slice a4 n4 c4]) y.num := hyz
    have bxn : lg x.num.natAbs ≤ 549755813888 := Nat.le_trans (Nat.le_trans (hq_num x) hlx.out) (by omega)
    have byn : lg y.num.natAbs ≤ 549755813888 := Nat.le_trans (Nat.le_trans (hq_num y) hly.out) (by omega)
    have bxd : lg x.den ≤ 549755813888 := Nat.le_trans (Nat.le_trans (hq_den x) hlx.out) (by omega)
    have byd : lg y.den ≤ 549755813888 := Nat.le_trans (Nat.le_trans (hq_den y) hly.out) (by omega)
    have bp1 : lg (x.num * (y.den : Int)).natAbs ≤ 274877906944 := by rw [Int.natAbs_mul, Int.natAbs_natCast]; have := lg_mul x.num.natAbs y.den; have := hq_num x; have := hq_den y; have := hlx.out; have := hly.out; omega
    have bp2 : lg (y.num * (x.den : Int)).natAbs ≤ 274877906944 := by rw [Int.natAbs_mul, Int.natAbs_natCast]; have := lg_mul y.num.natAbs x.den; have := hq_num y; have := hq_den x; have := hlx.out; have := hly.out; omega
    have bdd : lg (x.den * y.den) ≤ 274877906944 := by have := lg_mul x.den y.den; have := hq_den x; have := hq_den y; have := hlx.out; have := hly.out; omega
    have bnn : lg (x.num * y.num).natAbs ≤ 274877906944 := by rw [Int.natAbs_mul]; have := lg_mul x.num.natAbs y.num.natAbs; have := hq_num x; have := hq_num y; have := hlx.out; have := hly.out; omega
    have bd0 : 0 < x.den * y.den := Nat.mul_pos x.den_pos y.den_pos
    have hB := hid (And.intro b0 b1)
    have hS : Hid (∀ W', Ext wc.drew W' → W'.cell? ⟨b, 0, none⟩ = some (.bool s3) ∧ W'.cell? ⟨b, 1, none⟩ = some (.slice a3 n3 c3) ∧ W'.cell? ⟨b, 2, none⟩ = some (.slice d3 k3 e3) ∧ W'.cell? ⟨b + 1, 0, none⟩ = some (.bool s4) ∧ W'.cell? ⟨b + 1, 1, none⟩ = some (.slice a4 n4 c4) ∧ W'.cell? ⟨b + 1, 2, none⟩ = some (.slice d4 k4 e4)) :=
      hid fun W' h => ⟨(b0.ext0 (hEd.trans h)).cell 0 rfl, (b0.ext0 (hEd.trans h)).cell 1 rfl, (b0.ext0 (hEd.trans h)).cell 2 rfl, (b1.ext0 (hEd.trans h)).cell 0 rfl, (b1.ext0 (hEd.trans h)).cell 1 rfl, (b1.ext0 (hEd.trans h)).cell 2 rfl⟩
    have bqx : hq x ≤ 549755813888 := Nat.le_trans hlx.out (by decide)
    have bqy : hq y ≤ 549755813888 := Nat.le_trans hly.out (by decide)
    have cxn : lg x.num.natAbs ≤ 274877906944 := Nat.le_trans (Nat.le_trans (hq_num x) hlx.out) (by omega)
    have cyn : lg y.num.natAbs ≤ 274877906944 := Nat.le_trans (Nat.le_trans (hq_num y) hly.out) (by omega)
    have cxd : lg (x.den : Int).natAbs ≤ 274877906944 := Nat.le_trans (Nat.le_trans (hq_den x) hlx.out) (by omega)
    have cyd : lg (y.den : Int).natAbs ≤ 274877906944 := Nat.le_trans (Nat.le_trans (hq_den y) hly.out) (by omega)
    have cdd : lg ((x.den : Int) * (y.den : Int)).natAbs ≤ 274877906944 := by rw [← Int.natCast_mul, Int.natAbs_natCast]; exact bdd
    have cd0 : (x.den : Int) * (y.den : Int) ≠ 0 := Int.mul_ne_zero (by have := x.den_nz; omega) (by have := y.den_nz; omega)
    have csum : lg (x.num * (y.den : Int) + y.num * (x.den : Int)).natAbs ≤ 274877906944 := by
      have h1 := lg_mono (Int.natAbs_add_le (x.num * (y.den : Int)) (y.num * (x.den : Int)))
      have h2 := lg_add (x.num * (y.den : Int)).natAbs (y.num * (x.den : Int)).natAbs
      have h3 : lg (x.num * (y.den : Int)).natAbs ≤ 137438953472 := by rw [Int.natAbs_mul, Int.natAbs_natCast]; have := lg_mul x.num.natAbs y.den; have := hq_num x; have := hq_den y; have := hlx.out; have := hly.out; omega
      have h4 : lg (y.num * (x.den : Int)).natAbs ≤ 137438953472 := by rw [Int.natAbs_mul, Int.natAbs_natCast]; have := lg_mul y.num.natAbs x.den; have := hq_num y; have := hq_den x; have := hlx.out; have := hly.out; omega
      omega
    have hfin : Hid (((x.num * (y.den : Int) + y.num * (x.den : Int) : Int) : Rat) / (((x.den : Int) * (y.den : Int) : Int) : Rat) = x + y) := hid (by
      rw [← Int.natCast_mul, Rat.intCast_natCast, ← Rat.mkRat_eq_div]; exact (Rat.add_def' x y).symm)
    go_wp2_with fail
    go_region_held3 (fun w' => w'.cell? ⟨b, 0, none⟩ = some (.bool s3) ∧ w'.cell? ⟨b, 1, none⟩ = some (.slice a3 n3 c3) ∧ w'.cell? ⟨b, 2, none⟩ = some (.slice d3 k3 e3) ∧ w'.cell? ⟨b + 1, 0, none⟩ = some (.bool s4) ∧ w'.cell? ⟨b + 1, 1, none⟩ = some (.slice a4 n4 c4) ∧ w'.cell? ⟨b + 1, 2, none⟩ = some (.slice d4 k4 e4))
      (first | exact hS.out _ t1 | exact hS.out _ t2 | exact hS.out _ t3 | exact hS.out _ t4 | exact hS.out _ t5 | exact hS.out _ t6 | exact hS.out _ t7 | exact hS.out _ t8 | exact hS.out _ t9 | exact ⟨((hB.out.1.ext0 (hEd.trans t9)).ext (bb2.set3 _ _ _).2 (ob_other (by omega))).cell 0 rfl, ((hB.out.1.ext0 (hEd.trans t9)).ext (bb2.set3 _ _ _).2 (ob_other (by omega))).cell 1 rfl, ((hB.out.1.ext0 (hEd.trans t9)).ext (bb2.set3 _ _ _).2 (ob_other (by omega))).cell 2 rfl, ((hB.out.2.ext0 (hEd.trans t9)).ext (bb2.set3 _ _ _).2 (ob_other (by omega))).cell 0 rfl, ((hB.out.2.ext0 (hEd.trans t9)).ext (bb2.set3 _ _ _).2 (ob_other (by omega))).cell 1 rfl, ((hB.out.2.ext0 (hEd.trans t9)).ext (bb2.set3 _ _ _).2 (ob_other (by omega))).cell 2 rfl⟩ | go_keep)
      (first | (go_at_call 54; (with_reducible refine (rqden (hidB X b 3) wc.drew _ y hXd hyd bqy).mono ?_); rintro ee w5 ⟨t1, u5, rfl, hu5⟩; have hX5 := HX.ext hXd t1; have hx5 := mkx ZC.mono hxzd t1) | (go_at_call 53; (with_reducible refine (rimul (hidB X b 3) w5 _ _ x.num (y.den : Int) hX5 (hx5.zv (Nat.le_trans cxn (by decide))) (hu5.zv (Nat.le_trans cyd (by decide))) cxn cyd).mono ?_); rintro ee w6 ⟨hE6, u6, rfl, hu6⟩; have t2 := t1.trans hE6; have hX6 := HX.ext hXd t2; have hx6 := mkx QC.mono hxd t2) | (go_at_call 54; (with_reducible refine (rqden (hidB X b 3) w6 _ x hX6 hx6 bqx).mono ?_); rintro ee w7 ⟨hE7, u7, rfl, hu7⟩; have t3 := t2.trans hE7; have hX7 := HX.ext hXd t3; have hy7 := mkx ZC.mono hyzd t3) | (go_at_call 53; (with_reducible refine (rimul (hidB X b 3) w7 _ _ y.num (x.den : Int) hX7 (hy7.zv (Nat.le_trans cyn (by decide))) (hu7.zv (Nat.le_trans cxd (by decide))) cyn cxd).mono ?_); rintro ee w8 ⟨hE8, u8, rfl, hu8⟩; have t4 := t3.trans hE8; have hX8 := HX.ext hXd t4; have hz6 := mkx ZC.mono hu6 (hE7.trans hE8)) | (go_at_call 78; (with_reducible refine (riadd (hidB X b 3) w8 _ _ _ _ hX8 (hz6.zv (Nat.le_trans bp1 (by decide))) (hu8.zv (Nat.le_trans bp2 (by decide)))).mono ?_); rintro ee w9 ⟨hE9, u9, rfl, hu9⟩; have t5 := t4.trans hE9; have hX9 := HX.ext hXd t5; have hx9 := mkx QC.mono hxd t5) | (go_at_call 54; (with_reducible refine (rqden (hidB X b 3) w9 _ x hX9 hx9 bqx).mono ?_); rintro ee w10 ⟨hE10, u10, rfl, hu10⟩; have t6 := t5.trans hE10; have hX10 := HX.ext hXd t6; have hy10 := mkx QC.mono hyd t6) | (go_at_call 54; (with_reducible refine (rqden (hidB X b 3) w10 _ y hX10 hy10 bqy).mono ?_); rintro ee w11 ⟨hE11, u11, rfl, hu11⟩; have t7 := t6.trans hE11; have hX11 := HX.ext hXd t7; have hm10 := mkx ZC.mono hu10 hE11) | (go_at_call 53; (with_reducible refine (rimul (hidB X b 3) w11 _ _ (x.den : Int) (y.den : Int) hX11 (hm10.zv (Nat.le_trans cxd (by decide))) (hu11.zv (Nat.le_trans cyd (by decide))) cxd cyd).mono ?_); rintro ee w12 ⟨hE12, u12, rfl, hu12⟩; have t8 := t7.trans hE12; have hX12 := HX.ext hXd t8; have hz9 := mkx ZC.mono hu9 (hE10.trans (hE11.trans hE12))) | (go_at_call 52; (with_reducible refine (rqover (hidB X b 3) w12 _ _ _ _ hX12 hz9 hu12 csum cdd cd0).mono ?_); rintro ee w13 ⟨hE13, u13, rfl, hu13⟩; have t9 := t8.trans hE13; obtain ⟨s13, a13, n13, c13, d13, k13, e13, rfl⟩ := hu13.shape; have bb2 := b2.ext0 (hEd.trans t9); have g0 := bb2.cell 0 rfl; have g1 := bb2.cell 1 rfl; have g2 := bb2.cell 2 rfl; have f0 := bb2.frozen 0; have f1 := bb2.frozen 1; have f2 := bb2.frozen 2))
    rw [hfin.out] at hu13
    obtain ⟨r1, r2⟩ := bb2.set3 (.bool s13) (.slice a13 n13 c13) (.slice d13 k13 e13)
    have h7 := QC.mono _ _ _ _ le_unbox (QC.mono _ _ _ _ (le_store r2 (by omega) (by omega)) hu13)
    have hEf : Ext w _ := ExtX.box (hE1.trans (hEd.trans t9)) r2 (by omega)
    clear g0 g1 g2 f0 f1 f2 k00 k01 k02 k10 k11 k12 hS hB
    go_wp2_with fail
    exact bodyPost_ret (results_box rfl rfl stRat r1 rfl) rfl ⟨hEf, _, rfl, h7⟩

set_option maxRecDepth 100000 in
set_option maxHeartbeats 1600000 in
theorem rqmul (X : Nat → Bool) (w : World) (u v : Value) (x y : Rat) (hX : HX X w) (hu : QV (mk X w) u x) (hv : QV (mk X w) v y) : Calls Tryz.prog 19 #[u, v] w (ROut X w QC (x * y)) := by
  have hlx := hid hu.hq
  have hly := hid hv.hq
  obtain ⟨s1, a1, n1, c1, d1, k1, e1, rfl⟩ := hu.shape
  obtain ⟨s2, a2, n2, c2, d2, k2, e2, rfl⟩ := hv.shape
  obtain ⟨W, hW, hE, b0, b1, b2, hz⟩ := boxes3 w #[.bool s1, .slice a1 n1 c1, .slice d1 k1 e1] #[.bool s2, .slice a2 n2 c2, .slice d2 k2 e2] #[.bool false, .slice none 0 0, .slice none 0 0] 34 34 34
  have hXW : HX (hidB X w.heap.size 3) W := hX.boxes hz
  have hu1 := QV.mono _ _ _ _ (le_boxes (nb := 3) hE) hu
  have hv1 := QV.mono _ _ _ _ (le_boxes (nb := 3) hE) hv
  obtain ⟨b, hb⟩ : ∃ b, w.heap.size = b := ⟨_, rfl⟩
  have hbw : w.heap.size ≤ b := by omega
  rw [hb] at b0 b1 b2 hz hXW hu1 hv1
  have hEd : Ext W W.drew := (ExtX.refl W).drew
  have hXd : HX (hidB X b 3) W.drew := hXW
  have hud : QV (mk (hidB X b 3) W.drew) (.agg #[.bool s1, .slice a1 n1 c1, .slice d1 k1 e1]) x := hu1
  have hvd : QV (mk (hidB X b 3) W.drew) (.agg #[.bool s2, .slice a2 n2 c2, .slice d2 k2 e2]) y := hv1
  have k00 := b0.cell 0 rfl
  have k01 := b0.cell 1 rfl
  have k02 := b0.cell 2 rfl
  have k10 := b1.cell 0 rfl
  have k11 := b1.cell 1 rfl
  have k12 := b1.cell 2 rfl
  clear hu hv
  go_enter Tryz.func19, Tryz.ntmps19
  go_upto_region 1 with (fail)
  go_cut [] from 5 to 8 (fun wx => ∃ s3 a3 n3 c3 d3 k3 e3 s4 a4 n4 c4 d4 k4 e4, Bx wx b #[.bool s3, .slice a3 n3 c3, .slice d3 k3 e3] 34 ∧ Bx wx (b + 1) #[.bool s4, .slice a4 n4 c4, .slice d4 k4 e4] 34 ∧ Bx wx (b + 1 + 1) #[.bool false, .slice none 0 0, .slice none 0 0] 34 ∧ QC (mk (hidB X b 3) wx) (.agg #[.bool s3, .slice a3 n3 c3, .slice d3 k3 e3]) x ∧ QC (mk (hidB X b 3) wx) (.agg #[.bool s4, .slice a4 n4 c4, .slice d4 k4 e4]) y ∧ Ext w wx)
  case first =>
    go_region_with (first | (go_at_call 51; (with_reducible refine (rqtake (hidB X b 3) W.drew _ x hXd hud).mono ?_); rintro ee w5 ⟨hE5, u5, rfl, hq5⟩; obtain ⟨s5, a5, n5, c5, d5, k5, e5, rfl⟩ := hq5.shape; have bb0 := b0.ext0 (hEd.trans hE5); have bb1 := b1.ext0 (hEd.trans hE5); have e00 := bb0.cell 0 rfl; have e01 := bb0.cell 1 rfl; have e02 := bb0.cell 2 rfl; have e10 := bb1.cell 0 rfl; have e11 := bb1.cell 1 rfl; have e12 := bb1.cell 2 rfl) | (go_at_call 51; (with_reducible refine (rqtake (hidB X b 3) w5 _ y (HX.ext hXd hE5) (mkx QV.mono hvd hE5)).mono ?_); rintro ee w6 ⟨hE6, u6, rfl, hq6⟩; obtain ⟨s6, a6, n6, c6, d6, k6, e6, rfl⟩ := hq6.shape; have bb2 := bb0.ext0 hE6; have bb3 := bb1.ext0 hE6; have g00 := bb2.cell 0 rfl; have g01 := bb2.cell 1 rfl; have g02 := bb2.cell 2 rfl; have g10 := bb3.cell 0 rfl; have g11 := bb3.cell 1 rfl; have g12 := bb3.cell 2 rfl; have fr0 := bb2.frozen 0; have fr1 := bb2.frozen 1; have fr4 := bb2.frozen 2; have fr2 := bb3.frozen 0; have fr3 := bb3.frozen 1; have fr5 := bb3.frozen 2))
    all_goals
      obtain ⟨wf, hwf, q0, q1, q2, q3, q4⟩ := two_stores3 (X := X) (nb := 3) bb2 bb3 (hE.trans ((hEd.trans hE5).trans hE6)) hbw (by omega) (.bool s5) (.slice a5 n5 c5) (.slice d5 k5 e5) (.bool s6) (.slice a6 n6 c6) (.slice d6 k6 e6)
      rw [hwf]
      have hfx : QC (mk (hidB X b 3) wf) (.agg #[.bool s5, .slice a5 n5 c5, .slice d5 k5 e5]) x := QC.mono _ _ _ _ q4 (mkx QC.mono hq5 hE6)
      have hfy : QC (mk (hidB X b 3) wf) (.agg #[.bool s6, .slice a6 n6 c6, .slice d6 k6 e6]) y := QC.mono _ _ _ _ q4 hq6
      have q5 := q2 (b + 1 + 1) _ _ (by omega) (by omega) ((b2.ext0 (hEd.trans hE5)).ext0 hE6)
      clear e00 e01 e02 e10 e11 e12 g00 g01 g02 g10 g11 g12 fr0 fr1 fr2 fr3 fr4 fr5 k00 k01 k02 k10 k11 k12 hwf
      go_wp2_with fail
      go_meet
      exact ⟨_, _, _, _, _, _, _, _, _, _, _, _, _, _, q0, q1, q5, hfx, hfy, q3⟩
  case rest =>
    clear k00 k01 k02 k10 k11 k12 b0 b1 b2 hu1 hv1 hud hvd hXd hEd hW
    obtain ⟨s3, a3, n3, c3, d3, k3, e3, s4, a4, n4, c4, d4, k4, e4, b0, b1, b2, hx, hy, hE1⟩ := hcut
    have hzz : w.heap.size + 3 ≤ wc.heap.size := by have := b2.lt; omega
    obtain ⟨hxz, hxm, hxdn⟩ := hx.num
    obtain ⟨hyz, hym, hydn⟩ := hy.num
    have hXc : HX (hidB X b 3) wc := hX.boxes' hE1 (by have := hzz; omega) hzz
    have k00 := b0.cell 0 rfl
    have k01 := b0.cell 1 rfl
    have k02 := b0.cell 2 rfl
    have k10 := b1.cell 0 rfl
    have k11 := b1.cell 1 rfl
    have k12 := b1.cell 2 rfl
    have hEd : Ext wc wc.drew := (ExtX.refl wc).drew
    have hXd : HX (hidB X b 3) wc.drew := hXc
    have hxd : QC (mk (hidB X b 3) wc.drew) (.agg #[.bool s3, .slice a3 n3 c3, .slice d3 k3 e3]) x := hx
    have hyd : QC (mk (hidB X b 3) wc.drew) (.agg #[.bool s4, .slice a4 n4 c4, .slice d4 k4 e4]) y := hy
    have hxzd : ZC (mk (hidB X b 3) wc.drew) (.agg #[.bool s3, .slice a3 n3 c3]) x.num := hxz
    have hyzd : ZC (mk (hidB X b 3) wc.drew) (.agg #[.bool s4, .slice a4 n4 c4]) y.num := hyz
    have bxn : lg x.num.natAbs ≤ 549755813888 := Nat.le_trans (Nat.le_trans (hq_num x) hlx.out) (by omega)
    have byn : lg y.num.natAbs ≤ 549755813888 := Nat.le_trans (Nat.le_trans (hq_num y) hly.out) (by omega)
    have bxd : lg x.den ≤ 549755813888 := Nat.le_trans (Nat.le_trans (hq_den x) hlx.out) (by omega)
    have byd : lg y.den ≤ 549755813888 := Nat.le_trans (Nat.le_trans (hq_den y) hly.out) (by omega)
    have bp1 : lg (x.num * (y.den : Int)).natAbs ≤ 274877906944 := by rw [Int.natAbs_mul, Int.natAbs_natCast]; have := lg_mul x.num.natAbs y.den; have := hq_num x; have := hq_den y; have := hlx.out; have := hly.out; omega
    have bp2 : lg (y.num * (x.den : Int)).natAbs ≤ 274877906944 := by rw [Int.natAbs_mul, Int.natAbs_natCast]; have := lg_mul y.num.natAbs x.den; have := hq_num y; have := hq_den x; have := hlx.out; have := hly.out; omega
    have bdd : lg (x.den * y.den) ≤ 274877906944 := by have := lg_mul x.den y.den; have := hq_den x; have := hq_den y; have := hlx.out; have := hly.out; omega
    have bnn : lg (x.num * y.num).natAbs ≤ 274877906944 := by rw [Int.natAbs_mul]; have := lg_mul x.num.natAbs y.num.natAbs; have := hq_num x; have := hq_num y; have := hlx.out; have := hly.out; omega
    have bd0 : 0 < x.den * y.den := Nat.mul_pos x.den_pos y.den_pos
    have hB := hid (And.intro b0 b1)
    have hS : Hid (∀ W', Ext wc.drew W' → W'.cell? ⟨b, 0, none⟩ = some (.bool s3) ∧ W'.cell? ⟨b, 1, none⟩ = some (.slice a3 n3 c3) ∧ W'.cell? ⟨b, 2, none⟩ = some (.slice d3 k3 e3) ∧ W'.cell? ⟨b + 1, 0, none⟩ = some (.bool s4) ∧ W'.cell? ⟨b + 1, 1, none⟩ = some (.slice a4 n4 c4) ∧ W'.cell? ⟨b + 1, 2, none⟩ = some (.slice d4 k4 e4)) :=
      hid fun W' h => ⟨(b0.ext0 (hEd.trans h)).cell 0 rfl, (b0.ext0 (hEd.trans h)).cell 1 rfl, (b0.ext0 (hEd.trans h)).cell 2 rfl, (b1.ext0 (hEd.trans h)).cell 0 rfl, (b1.ext0 (hEd.trans h)).cell 1 rfl, (b1.ext0 (hEd.trans h)).cell 2 rfl⟩
    have bqx : hq x ≤ 549755813888 := Nat.le_trans hlx.out (by decide)
    have bqy : hq y ≤ 549755813888 := Nat.le_trans hly.out (by decide)
    have cxn : lg x.num.natAbs ≤ 274877906944 := Nat.le_trans (Nat.le_trans (hq_num x) hlx.out) (by omega)
    have cyn : lg y.num.natAbs ≤ 274877906944 := Nat.le_trans (Nat.le_trans (hq_num y) hly.out) (by omega)
    have cxd : lg (x.den : Int).natAbs ≤ 274877906944 := Nat.le_trans (Nat.le_trans (hq_den x) hlx.out) (by omega)
    have cyd : lg (y.den : Int).natAbs ≤ 274877906944 := Nat.le_trans (Nat.le_trans (hq_den y) hly.out) (by omega)
    have cdd : lg ((x.den : Int) * (y.den : Int)).natAbs ≤ 274877906944 := by rw [← Int.natCast_mul, Int.natAbs_natCast]; exact bdd
    have cd0 : (x.den : Int) * (y.den : Int) ≠ 0 := Int.mul_ne_zero (by have := x.den_nz; omega) (by have := y.den_nz; omega)
    have hfin : Hid (((x.num * y.num : Int) : Rat) / (((x.den : Int) * (y.den : Int) : Int) : Rat) = x * y) := hid (by
      rw [← Int.natCast_mul, Rat.intCast_natCast, ← Rat.mkRat_eq_div]; exact (Rat.mul_def' x y).symm)
    go_wp2_with fail
    go_region_held3 (fun w' => w'.cell? ⟨b, 0, none⟩ = some (.bool s3) ∧ w'.cell? ⟨b, 1, none⟩ = some (.slice a3 n3 c3) ∧ w'.cell? ⟨b, 2, none⟩ = some (.slice d3 k3 e3) ∧ w'.cell? ⟨b + 1, 0, none⟩ = some (.bool s4) ∧ w'.cell? ⟨b + 1, 1, none⟩ = some (.slice a4 n4 c4) ∧ w'.cell? ⟨b + 1, 2, none⟩ = some (.slice d4 k4 e4))
      (first | exact hS.out _ t1 | exact hS.out _ t2 | exact hS.out _ t3 | exact hS.out _ t4 | exact hS.out _ t5 | exact ⟨((hB.out.1.ext0 (hEd.trans t5)).ext (bb2.set3 _ _ _).2 (ob_other (by omega))).cell 0 rfl, ((hB.out.1.ext0 (hEd.trans t5)).ext (bb2.set3 _ _ _).2 (ob_other (by omega))).cell 1 rfl, ((hB.out.1.ext0 (hEd.trans t5)).ext (bb2.set3 _ _ _).2 (ob_other (by omega))).cell 2 rfl, ((hB.out.2.ext0 (hEd.trans t5)).ext (bb2.set3 _ _ _).2 (ob_other (by omega))).cell 0 rfl, ((hB.out.2.ext0 (hEd.trans t5)).ext (bb2.set3 _ _ _).2 (ob_other (by omega))).cell 1 rfl, ((hB.out.2.ext0 (hEd.trans t5)).ext (bb2.set3 _ _ _).2 (ob_other (by omega))).cell 2 rfl⟩ | go_keep)
      (first | (go_at_call 53; (with_reducible refine (rimul (hidB X b 3) wc.drew _ _ x.num y.num hXd (hxzd.zv (Nat.le_trans cxn (by decide))) (hyzd.zv (Nat.le_trans cyn (by decide))) cxn cyn).mono ?_); rintro ee w5 ⟨t1, u5, rfl, hu5⟩; have hX5 := HX.ext hXd t1; have hx5 := mkx QC.mono hxd t1) | (go_at_call 54; (with_reducible refine (rqden (hidB X b 3) w5 _ x hX5 hx5 bqx).mono ?_); rintro ee w6 ⟨hE6, u6, rfl, hu6⟩; have t2 := t1.trans hE6; have hX6 := HX.ext hXd t2; have hy6 := mkx QC.mono hyd t2) | (go_at_call 54; (with_reducible refine (rqden (hidB X b 3) w6 _ y hX6 hy6 bqy).mono ?_); rintro ee w7 ⟨hE7, u7, rfl, hu7⟩; have t3 := t2.trans hE7; have hX7 := HX.ext hXd t3; have hm6 := mkx ZC.mono hu6 hE7) | (go_at_call 53; (with_reducible refine (rimul (hidB X b 3) w7 _ _ (x.den : Int) (y.den : Int) hX7 (hm6.zv (Nat.le_trans cxd (by decide))) (hu7.zv (Nat.le_trans cyd (by decide))) cxd cyd).mono ?_); rintro ee w8 ⟨hE8, u8, rfl, hu8⟩; have t4 := t3.trans hE8; have hX8 := HX.ext hXd t4; have hz5 := mkx ZC.mono hu5 (hE6.trans (hE7.trans hE8))) | (go_at_call 52; (with_reducible refine (rqover (hidB X b 3) w8 _ _ _ _ hX8 hz5 hu8 bnn cdd cd0).mono ?_); rintro ee w9 ⟨hE9, u9, rfl, hu9⟩; have t5 := t4.trans hE9; obtain ⟨s13, a13, n13, c13, d13, k13, e13, rfl⟩ := hu9.shape; have bb2 := b2.ext0 (hEd.trans t5); have g0 := bb2.cell 0 rfl; have g1 := bb2.cell 1 rfl; have g2 := bb2.cell 2 rfl; have f0 := bb2.frozen 0; have f1 := bb2.frozen 1; have f2 := bb2.frozen 2))
    rw [hfin.out] at hu9
    obtain ⟨r1, r2⟩ := bb2.set3 (.bool s13) (.slice a13 n13 c13) (.slice d13 k13 e13)
    have h7 := QC.mono _ _ _ _ le_unbox (QC.mono _ _ _ _ (le_store r2 (by omega) (by omega)) hu9)
    have hEf : Ext w _ := ExtX.box (hE1.trans (hEd.trans t5)) r2 (by omega)
    clear g0 g1 g2 f0 f1 f2 k00 k01 k02 k10 k11 k12 hS hB
    go_wp2_with fail
    exact bodyPost_ret (results_box rfl rfl stRat r1 rfl) rfl ⟨hEf, _, rfl, h7⟩

end Go.Proofs.YthipmbmjodhiiaaGreat


namespace Go.Proofs.YthipmbmjodhiiaaGreat
open Go.RowKit Go.Rep Go.Lim

end Go.Proofs.YthipmbmjodhiiaaGreat


namespace Go.Lin
open Go.Lim
end Go.Lin
namespace Go.Proofs.YthipmbmjodhiiaaGreat
open Go.RowKit Go.Rep Go.Lim Go.Lin

end Go.Proofs.YthipmbmjodhiiaaGreat


namespace Go.Proofs.YthipmbmjodhiiaaGreat
open Go.RowKit Go.Rep Go.Lim

set_option maxRecDepth 100000 in
theorem rqsub (X : Nat → Bool) (w : World) (u v : Value) (x y : Rat) (hX : HX X w) (hu : QV (mk X w) u x) (hv : QV (mk X w) v y) : Calls Tryz.prog 18 #[u, v] w (ROut X w QC (x - y)) := by
  have hlx := hid hu.hq
  have hly := hid hv.hq
  obtain ⟨s1, a1, n1, c1, d1, k1, e1, rfl⟩ := hu.shape
  obtain ⟨s2, a2, n2, c2, d2, k2, e2, rfl⟩ := hv.shape
  obtain ⟨W, hW, hE, b0, b1, b2, hz⟩ := boxes3 w #[.bool s1, .slice a1 n1 c1, .slice d1 k1 e1] #[.bool s2, .slice a2 n2 c2, .slice d2 k2 e2] #[.bool false, .slice none 0 0, .slice none 0 0] 34 34 34
  have hXW : HX (hidB X w.heap.size 3) W := hX.boxes hz
  have hu1 := QV.mono _ _ _ _ (le_boxes (nb := 3) hE) hu
  have hv1 := QV.mono _ _ _ _ (le_boxes (nb := 3) hE) hv
  obtain ⟨b, hb⟩ : ∃ b, w.heap.size = b := ⟨_, rfl⟩
  have hbw : w.heap.size ≤ b := by omega
  rw [hb] at b0 b1 b2 hz hXW hu1 hv1
  have hEd : Ext W W.drew := (ExtX.refl W).drew
  have hXd : HX (hidB X b 3) W.drew := hXW
  have hud : QV (mk (hidB X b 3) W.drew) (.agg #[.bool s1, .slice a1 n1 c1, .slice d1 k1 e1]) x := hu1
  have hvd : QV (mk (hidB X b 3) W.drew) (.agg #[.bool s2, .slice a2 n2 c2, .slice d2 k2 e2]) y := hv1
  have k00 := b0.cell 0 rfl
  have k01 := b0.cell 1 rfl
  have k02 := b0.cell 2 rfl
  have k10 := b1.cell 0 rfl
  have k11 := b1.cell 1 rfl
  have k12 := b1.cell 2 rfl
  clear hu hv
  have hB := hid (And.intro b0 b1)
  have hS : Hid (∀ W', Ext W.drew W' → W'.cell? ⟨b, 0, none⟩ = some (.bool s1) ∧ W'.cell? ⟨b, 1, none⟩ = some (.slice a1 n1 c1) ∧ W'.cell? ⟨b, 2, none⟩ = some (.slice d1 k1 e1) ∧ W'.cell? ⟨b + 1, 0, none⟩ = some (.bool s2) ∧ W'.cell? ⟨b + 1, 1, none⟩ = some (.slice a2 n2 c2) ∧ W'.cell? ⟨b + 1, 2, none⟩ = some (.slice d2 k2 e2)) :=
    hid fun W' h => ⟨(b0.ext0 (hEd.trans h)).cell 0 rfl, (b0.ext0 (hEd.trans h)).cell 1 rfl, (b0.ext0 (hEd.trans h)).cell 2 rfl, (b1.ext0 (hEd.trans h)).cell 0 rfl, (b1.ext0 (hEd.trans h)).cell 1 rfl, (b1.ext0 (hEd.trans h)).cell 2 rfl⟩
  have hny := hid (show hq (-y) ≤ 68719476736 by rw [hq_neg]; exact hly.out)
  have hsum : Hid (x + -y = x - y) := hid (Rat.sub_eq_add_neg x y).symm
  go_enter Tryz.func18, Tryz.ntmps18
  go_upto_region 1 with (fail)
  go_region_held3 (fun w' => w'.cell? ⟨b, 0, none⟩ = some (.bool s1) ∧ w'.cell? ⟨b, 1, none⟩ = some (.slice a1 n1 c1) ∧ w'.cell? ⟨b, 2, none⟩ = some (.slice d1 k1 e1) ∧ w'.cell? ⟨b + 1, 0, none⟩ = some (.bool s2) ∧ w'.cell? ⟨b + 1, 1, none⟩ = some (.slice a2 n2 c2) ∧ w'.cell? ⟨b + 1, 2, none⟩ = some (.slice d2 k2 e2))
    (first | exact hS.out _ t1 | exact hS.out _ t2 | exact ⟨((hB.out.1.ext0 (hEd.trans t2)).ext (bb2.set3 _ _ _).2 (ob_other (by omega))).cell 0 rfl, ((hB.out.1.ext0 (hEd.trans t2)).ext (bb2.set3 _ _ _).2 (ob_other (by omega))).cell 1 rfl, ((hB.out.1.ext0 (hEd.trans t2)).ext (bb2.set3 _ _ _).2 (ob_other (by omega))).cell 2 rfl, ((hB.out.2.ext0 (hEd.trans t2)).ext (bb2.set3 _ _ _).2 (ob_other (by omega))).cell 0 rfl, ((hB.out.2.ext0 (hEd.trans t2)).ext (bb2.set3 _ _ _).2 (ob_other (by omega))).cell 1 rfl, ((hB.out.2.ext0 (hEd.trans t2)).ext (bb2.set3 _ _ _).2 (ob_other (by omega))).cell 2 rfl⟩ | go_keep)
    (first | (go_at_call 50; (with_reducible refine (rqneg (hidB X b 3) W.drew _ y hXd hvd).mono ?_); rintro ee w5 ⟨t1, u5, rfl, hu5⟩; have hX5 := HX.ext hXd t1; have hx5 := mkx QV.mono hud t1) | (go_at_call 48; (with_reducible refine (rqadd (hidB X b 3) w5 _ _ x (-y) hX5 hx5 (hu5.qv hny.out)).mono ?_); rintro ee w6 ⟨hE6, u6, rfl, hu6⟩; obtain ⟨s6, a6, n6, c6, d6, k6, e6, rfl⟩ := hu6.shape; have t2 := t1.trans hE6; have bb2 := b2.ext0 (hEd.trans t2); have g0 := bb2.cell 0 rfl; have g1 := bb2.cell 1 rfl; have g2 := bb2.cell 2 rfl; have f0 := bb2.frozen 0; have f1 := bb2.frozen 1; have f2 := bb2.frozen 2))
  rw [hsum.out] at hu6
  obtain ⟨q1, q2⟩ := bb2.set3 (.bool s6) (.slice a6 n6 c6) (.slice d6 k6 e6)
  have h7 := QC.mono _ _ _ _ le_unbox (QC.mono _ _ _ _ (le_store q2 (by omega) (by omega)) hu6)
  have hEf : Ext w _ := ExtX.box (hE.trans (hEd.trans t2)) q2 (by omega)
  clear g0 g1 g2 f0 f1 f2 k00 k01 k02 k10 k11 k12 hS hB
  go_wp2_with fail
  exact bodyPost_ret (results_box rfl rfl stRat q1 rfl) rfl ⟨hEf, _, rfl, h7⟩

set_option maxRecDepth 100000 in
theorem rqfraction (X : Nat → Bool) (w : World) (a k : Int) (hX : HX X w) (h1 : -9223372036854775808 ≤ a) (h2 : a ≤ 9223372036854775807) (h3 : -9223372036854775808 ≤ k) (h4 : k ≤ 9223372036854775807) (hk : k ≠ 0) (ha : lg a.natAbs ≤ 274877906944) (hkl : lg k.natAbs ≤ 274877906944) : Calls Tryz.prog 47 #[.int .i64 a, .int .i64 k] w (ROut X w QC ((a : Rat) / (k : Rat))) := by
  obtain ⟨W, hW, hE, b0, hz⟩ := boxes1 w #[.bool false, .slice none 0 0, .slice none 0 0] 34
  have hXW : HX (hidB X w.heap.size 1) W := hX.boxes hz
  obtain ⟨b, hb⟩ : ∃ b, w.heap.size = b := ⟨_, rfl⟩
  have hbw : w.heap.size ≤ b := by omega
  rw [hb] at b0 hz hXW
  have hI := hid (And.intro (And.intro h1 h2) (And.intro (And.intro h3 h4) (And.intro hk (And.intro ha hkl))))
  clear h1 h2 h3 h4 hk ha hkl
  go_enter Tryz.func47, Tryz.ntmps47
  go_wp2_with fail
  refine (rifrom (hidB X b 1) W a hXW hI.out.1.1 hI.out.1.2).mono ?_
  rintro e1 w1 ⟨hE1, u1, rfl, hu1⟩
  have hX1 := hXW.ext hE1
  go_wp2_with fail
  refine (rifrom (hidB X b 1) w1 k hX1 hI.out.2.1.1 hI.out.2.1.2).mono ?_
  rintro e2 w2 ⟨hE2, u2, rfl, hu2⟩
  go_wp2_with fail
  refine (rqover (hidB X b 1) w2 _ _ a k (hX1.ext hE2) (mkx ZC.mono hu1 hE2) hu2 hI.out.2.2.2.1 hI.out.2.2.2.2 hI.out.2.2.1).mono ?_
  rintro e3 w3 ⟨hE3, u3, rfl, hu3⟩
  obtain ⟨s5, a5, n5, c5, d5, k5, e5, rfl⟩ := hu3.shape
  have bb := ((b0.ext0 hE1).ext0 hE2).ext0 hE3
  go_wp2_with ((with_reducible show wpList _ _ _ (⟨_, .store _ _ _, _, _, _, _⟩ :: _) _ _); refine st_storeBox stRat rfl rfl bb rfl rfl (one3 _ _ _ _ _ _ _) ?_; intro w7 r1 r2)
  have h7 := QC.mono _ _ _ _ le_unbox (QC.mono _ _ _ _ (le_store r2 (by omega) (by omega)) hu3)
  exact bodyPost_ret (results_box rfl rfl stRat r1 rfl) rfl ⟨ExtX.box (hE.trans (hE1.trans (hE2.trans hE3))) r2 (by omega), _, rfl, h7⟩
end Go.Proofs.YthipmbmjodhiiaaGreat


namespace Go.Proofs.YthipmbmjodhiiaaGreat
open Go.RowKit Go.Rep Go.Lim Go.Lin

end Go.Proofs.YthipmbmjodhiiaaGreat


namespace Go.Proofs.YthipmbmjodhiiaaGreat
open Go.RowKit Go.Rep Go.Lim Go.Lin

end Go.Proofs.YthipmbmjodhiiaaGreat


namespace Go.Lin
/-- Is a matrix well-formed? -/
def formedB {α : Type} (m : List (List α)) : Bool := decide (m.length ≤ 96) && m.all fun r => decide (1 ≤ r.length ∧ r.length ≤ 96 ∧ r.length = (m.getD 0 []).length)
def colsL {α : Type} (m : List (List α)) : Nat := (m.getD 0 []).length
theorem formedB_true {α : Type} {m : List (List α)} : formedB m = true ↔ m.length ≤ 96 ∧ ∀ i (hi : i < m.length), 1 ≤ m[i].length ∧ m[i].length ≤ 96 ∧ m[i].length = colsL m := by
  unfold formedB colsL
  rw [Bool.and_eq_true, decide_eq_true_eq, List.all_eq_true]
  constructor
  · rintro ⟨h1, h2⟩
    exact ⟨h1, fun i hi => by simpa using h2 _ (List.getElem_mem hi)⟩
  · rintro ⟨h1, h2⟩
    refine ⟨h1, fun r hr => ?_⟩
    obtain ⟨i, hi, rfl⟩ := List.getElem_of_mem hr
    simpa using h2 i hi
theorem formedB_false {α : Type} {m : List (List α)} (i : Nat) (hi : i < m.length) (h : ¬ (1 ≤ m[i].length ∧ m[i].length ≤ 96 ∧ m[i].length = colsL m)) : false = formedB m := by
  symm
  cases hf : formedB m
  · rfl
  · exact absurd ((formedB_true.1 hf).2 i hi) h
theorem colsL_pos {α : Type} {m : List (List α)} (h : 0 < m.length) : colsL m = m[0].length := by simp [colsL, List.getD_eq_getElem?_getD, h]
theorem formedB_shp {m : List (List Rat)} (h : formedB m = true) : Shp m.length (colsL m) m ∧ m.length ≤ 96 ∧ colsL m ≤ 96 ∧ (0 < m.length → 1 ≤ colsL m) ∧ (m.length = 0 → colsL m = 0) := by
  have h1 := formedB_true.1 h
  refine ⟨⟨rfl, fun r hr => ?_⟩, h1.1, ?_, fun h0 => ?_, fun h0 => ?_⟩
  · obtain ⟨i, hi, rfl⟩ := List.getElem_of_mem hr
    exact (h1.2 i hi).2.2
  · by_cases h0 : 0 < m.length
    · have := h1.2 0 h0; omega
    · have : m = [] := List.eq_nil_of_length_eq_zero (by omega)
      subst this; simp [colsL]
  · have := h1.2 0 h0; omega
  · have : m = [] := List.eq_nil_of_length_eq_zero h0
    subst this; rfl
end Go.Lin
namespace Go.Proofs.YthipmbmjodhiiaaGreat
open Go.RowKit Go.Rep Go.Lim Go.Lin

theorem columns_any {R : Mem → Value → Rat → Prop} (X : Nat → Bool) (w : World) (u : Value) (m : List (List Rat)) (hu : SlV (SlV R 3) 1 (mk X w) u m) : Calls Tryz.prog 124 #[u] w (fun e w' => w' = w ∧ e = .returned (.int .i64 (colsL m : Int))) := by
  obtain ⟨ao, ca, rfl, hca, hsa⟩ := hu
  have hha := hsa.hd
  by_cases h : 0 < m.length
  · obtain ⟨a1, c1, hX1, hc1, hcl1, hq1⟩ := hsa.row 0 h
    have k00 := hc1.out noY w (ExtX.refl _) rfl
    have hc := hid (colsL_pos h)
    have hI : ((m.length : Int) == 0) = false := beqF (by omega)
    go_enter Tryz.func124, Tryz.ntmps124
    go_wp2_with (with_reducible refine up_ix1 slRats (by omega) (by assumption) ?_)
    go_ret
    exact ⟨rfl, ret_int (by rw [hc.out])⟩
  · have hc : Hid (colsL m = 0) := hid (by
      have : m = [] := List.eq_nil_of_length_eq_zero (by omega)
      subst this; rfl)
    have hI : ((m.length : Int) == 0) = true := beqT (by omega)
    go_enter Tryz.func124, Tryz.ntmps124
    go_wp2_with (with_reducible refine up_ix1 slRats (by omega) (by assumption) ?_)
    go_ret
    exact ⟨rfl, ret_int (by rw [hc.out]; rfl)⟩

set_option maxRecDepth 100000 in
theorem formed_any {R : Mem → Value → Rat → Prop} (X : Nat → Bool) (w : World) (u : Value) (m : List (List Rat)) (hu : SlV (SlV R 3) 1 (mk X w) u m) (hl : m.length ≤ 1099511627776) : Calls Tryz.prog 120 #[u] w (fun e w' => w' = w ∧ e = .returned (.bool (formedB m))) := by
  obtain ⟨ao, ca, rfl, hca, hsa⟩ := hu
  have hha := hsa.hd
  by_cases h96 : 96 < m.length
  · have hv : Hid (false = formedB m) := hid (by
      symm
      cases hf : formedB m
      · rfl
      · have := (formedB_true.1 hf).1; omega)
    have hI : (96 : Int) < (m.length : Int) := by omega
    go_enter Tryz.func120, Tryz.ntmps120
    go_wp2_with fail
    go_ret
    exact ⟨rfl, ret_bool hv.out⟩
  · have hI : ¬ (96 : Int) < (m.length : Int) := by omega
    go_enter Tryz.func120, Tryz.ntmps120
    go_wp2_with fail
    go_loop [10] (fun c => ∃ (i : Nat), c = .int .i64 i ∧ i ≤ m.length ∧ Hid (∀ q, q < i → ∀ hq : q < m.length, 1 ≤ m[q].length ∧ m[q].length ≤ 96 ∧ m[q].length = colsL m)) (fun c => m.length - (intOf c).toNat)
    case atStart => exact ⟨0, rfl, Nat.zero_le _, fun q hq => by omega⟩
    case round =>
      obtain ⟨i, rfl, hi, hok⟩ := hrel
      by_cases hlt : i < m.length
      · have h0 : 0 < m.length := by omega
        obtain ⟨a1, c1, hX1, hc1, hcl1, hq1⟩ := hsa.row i hlt
        obtain ⟨a2, c2, hX2, hc2, hcl2, hq2⟩ := hsa.row 0 h0
        have k00 := hc1.out noY w (ExtX.refl _) rfl
        have k10 := hc2.out noY w (ExtX.refl _) rfl
        have hcol := colsL_pos h0
        have hno := hid (formedB_false i hlt)
        rw [← hcol] at k10
        obtain ⟨x, hx⟩ : ∃ x, m[i].length = x := ⟨_, rfl⟩
        obtain ⟨y, hy⟩ : ∃ y, colsL m = y := ⟨_, rfl⟩
        rw [hx] at k00 hno
        rw [hy] at k10 hno
        have hst : Hid (1 ≤ x ∧ x ≤ 96 ∧ x = y → ∀ hq : i < m.length, 1 ≤ m[i].length ∧ m[i].length ≤ 96 ∧ m[i].length = colsL m) := hid fun h hq => by rw [hx, hy]; exact h
        clear hx hy hcol hc1 hc2 hq1 hq2 hcl1 hcl2
        by_cases hx0 : x = 0
        · have d0 : ((x : Int) == 0) = true := beqT (by omega)
          have hv := hid (hno.out (by omega))
          clear hx0
          go_wp2_with (with_reducible refine up_ix1 slRats (by omega) (by assumption) ?_)
          go_ret
          exact ⟨rfl, ret_bool hv.out⟩
        · have d0 : ((x : Int) == 0) = false := beqF (by omega)
          by_cases hx1 : 96 < x
          · have d1 : (96 : Int) < (x : Int) := by omega
            have hv := hid (hno.out (by omega))
            clear hx0
            go_wp2_with (with_reducible refine up_ix1 slRats (by omega) (by assumption) ?_)
            go_ret
            exact ⟨rfl, ret_bool hv.out⟩
          · have d1 : ¬ (96 : Int) < (x : Int) := by omega
            by_cases hxy : x = y
            · have d2 : ((x : Int) != (y : Int)) = false := bneF (by omega)
              have hst2 := hid (hst.out ⟨by omega, by omega, hxy⟩)
              clear hx0 hxy
              go_wp2_with (with_reducible refine up_ix1 slRats (by omega) (by assumption) ?_)
              go_round
              case rel => exact ⟨i + 1, by go_num, by omega, upto_succ hok.out hst2.out⟩
              case measure => simp [intOf]; omega
            · have d2 : ((x : Int) != (y : Int)) = true := bneT (by omega)
              have hv := hid (hno.out (by omega))
              clear hx0 hxy
              go_wp2_with (with_reducible refine up_ix1 slRats (by omega) (by assumption) ?_)
              go_ret
              exact ⟨rfl, ret_bool hv.out⟩
      · have hv : Hid (true = formedB m) := hid (by
          symm
          exact formedB_true.2 ⟨by omega, fun q hq => hok.out q (by omega) hq⟩)
        go_wp2_with fail
        go_ret
        exact ⟨rfl, ret_bool hv.out⟩
end Go.Proofs.YthipmbmjodhiiaaGreat


namespace Go.Lin
open Go.Rep
/-- All rows have the same number of elements, from low to high. -/
def sameB {α : Type} (m : List (List α)) (lo hi : Nat) : Bool := decide (∀ i (h : i < m.length), m[i].length = colsL m ∧ lo ≤ m[i].length ∧ m[i].length ≤ hi)
theorem sameB_true {α : Type} {m : List (List α)} {lo hi : Nat} : sameB m lo hi = true ↔ ∀ i (h : i < m.length), m[i].length = colsL m ∧ lo ≤ m[i].length ∧ m[i].length ≤ hi := by unfold sameB; simp
theorem sameB_false {α : Type} {m : List (List α)} {lo hi : Nat} (i : Nat) (h : i < m.length) (hn : ¬ (m[i].length = colsL m ∧ lo ≤ m[i].length ∧ m[i].length ≤ hi)) : false = sameB m lo hi := by
  symm
  cases hs : sameB m lo hi
  · rfl
  · exact absurd (sameB_true.1 hs i h) hn
/-- A list of rows is a list of points. -/
def ptsB {α : Type} (m : List (List α)) : Bool := decide (1 ≤ m.length) && (decide (m.length ≤ 64) && sameB m 1 3)
theorem ptsB_true {α : Type} {m : List (List α)} : ptsB m = true ↔ 1 ≤ m.length ∧ m.length ≤ 64 ∧ 1 ≤ colsL m ∧ colsL m ≤ 3 ∧ ∀ i (h : i < m.length), m[i].length = colsL m := by
  unfold ptsB
  simp only [Bool.and_eq_true, decide_eq_true_eq, sameB_true]
  constructor
  · rintro ⟨h1, h2, h3⟩
    have h4 := h3 0 (by omega)
    exact ⟨h1, h2, by omega, by omega, fun i h => (h3 i h).1⟩
  · rintro ⟨h1, h2, h3, h4, h5⟩
    exact ⟨h1, h2, fun i h => ⟨h5 i h, by rw [h5 i h]; exact h3, by rw [h5 i h]; exact h4⟩⟩
theorem ptsB_shp {m : Mat} (h : ptsB m = true) : Shp m.length (colsL m) m := by
  refine ⟨rfl, fun r hr => ?_⟩
  obtain ⟨i, hi, rfl⟩ := List.getElem_of_mem hr
  exact (ptsB_true.1 h).2.2.2.2 i hi
theorem ptsB_row {m : Mat} (h : ptsB m = true) : ∀ r ∈ m, r.length = colsL m := (ptsB_shp h).2
end Go.Lin
namespace Go.Proofs.YthipmbmjodhiiaaGreat
open Go.RowKit Go.Rep Go.Lim Go.Lin

set_option maxRecDepth 100000 in
theorem esame_any {R : Mem → Value → Rat → Prop} (X : Nat → Bool) (w : World) (u : Value) (m : List (List Rat)) (lo hi : Nat) (hu : SlV (SlV R 3) 1 (mk X w) u m) (hl : m.length ≤ 1099511627776) : Calls Tryz.prog 76 #[u, .int .i64 (lo : Int), .int .i64 (hi : Int)] w (fun e w' => w' = w ∧ e = .returned (.bool (sameB m lo hi))) := by
  obtain ⟨ao, ca, rfl, hca, hsa⟩ := hu
  have hha := hsa.hd
  go_enter Tryz.func76, Tryz.ntmps76
  go_wp2_with fail
  go_loop [11] (fun c => ∃ (i : Nat), c = .int .i64 i ∧ i ≤ m.length ∧ Hid (∀ q, q < i → ∀ hq : q < m.length, m[q].length = colsL m ∧ lo ≤ m[q].length ∧ m[q].length ≤ hi)) (fun c => m.length - (intOf c).toNat)
  case atStart => exact ⟨0, rfl, Nat.zero_le _, fun q hq => by omega⟩
  case round =>
    obtain ⟨i, rfl, hi', hok⟩ := hrel
    by_cases hlt : i < m.length
    · have h0 : 0 < m.length := by omega
      obtain ⟨a1, c1, hX1, hc1, hcl1, hq1⟩ := hsa.row i hlt
      obtain ⟨a2, c2, hX2, hc2, hcl2, hq2⟩ := hsa.row 0 h0
      have k00 := hc1.out noY w (ExtX.refl _) rfl
      have k10 := hc2.out noY w (ExtX.refl _) rfl
      have hcol := colsL_pos h0
      have hno := hid (sameB_false (lo := lo) (hi := hi) i hlt)
      rw [← hcol] at k10
      obtain ⟨x, hx⟩ : ∃ x, m[i].length = x := ⟨_, rfl⟩
      obtain ⟨y, hy⟩ : ∃ y, colsL m = y := ⟨_, rfl⟩
      rw [hx] at k00 hno
      rw [hy] at k10 hno
      have hst : Hid (x = y ∧ lo ≤ x ∧ x ≤ hi → ∀ hq : i < m.length, m[i].length = colsL m ∧ lo ≤ m[i].length ∧ m[i].length ≤ hi) := hid fun h hq => by rw [hx, hy]; exact h
      clear hx hy hcol hc1 hc2 hq1 hq2 hcl1 hcl2
      by_cases hxy : x = y
      · have d2 : ((x : Int) != (y : Int)) = false := bneF (by omega)
        by_cases hx0 : x < lo
        · have d0 : (x : Int) < (lo : Int) := by omega
          have hv := hid (hno.out (by omega))
          clear hxy
          go_wp2_with (with_reducible refine up_ix1 slRats (by omega) (by assumption) ?_)
          go_ret
          exact ⟨rfl, ret_bool hv.out⟩
        · have d0 : ¬ (x : Int) < (lo : Int) := by omega
          by_cases hx1 : hi < x
          · have d1 : (hi : Int) < (x : Int) := by omega
            have hv := hid (hno.out (by omega))
            clear hxy
            go_wp2_with (with_reducible refine up_ix1 slRats (by omega) (by assumption) ?_)
            go_ret
            exact ⟨rfl, ret_bool hv.out⟩
          · have d1 : ¬ (hi : Int) < (x : Int) := by omega
            have hst2 := hid (hst.out ⟨hxy, by omega, by omega⟩)
            clear hxy
            go_wp2_with (with_reducible refine up_ix1 slRats (by omega) (by assumption) ?_)
            go_round
            case rel => exact ⟨i + 1, by go_num, by omega, upto_succ hok.out hst2.out⟩
            case measure => simp [intOf]; omega
      · have d2 : ((x : Int) != (y : Int)) = true := bneT (by omega)
        have hv := hid (hno.out (by omega))
        clear hxy
        go_wp2_with (with_reducible refine up_ix1 slRats (by omega) (by assumption) ?_)
        go_ret
        exact ⟨rfl, ret_bool hv.out⟩
    · have hv : Hid (true = sameB m lo hi) := hid (by
        symm
        exact sameB_true.2 fun q hq => hok.out q (by omega) hq)
      go_wp2_with fail
      go_ret
      exact ⟨rfl, ret_bool hv.out⟩

theorem epoints_any {R : Mem → Value → Rat → Prop} (X : Nat → Bool) (w : World) (u : Value) (m : List (List Rat)) (hu : SlV (SlV R 3) 1 (mk X w) u m) (hl : m.length ≤ 1099511627776) : Calls Tryz.prog 61 #[u] w (fun e w' => w' = w ∧ e = .returned (.bool (ptsB m))) := by
  have hsa := esame_any X w u m 1 3 hu hl
  obtain ⟨ao, ca, rfl, hca, _⟩ := hu
  by_cases h1 : m.length < 1
  · have d1 : ¬ (1 : Int) ≤ (m.length : Int) := by omega
    have hv : Hid (false = ptsB m) := hid (by unfold ptsB; rw [decide_eq_false (by omega)]; rfl)
    go_enter Tryz.func61, Tryz.ntmps61
    go_wp2_with fail
    go_ret
    exact ⟨rfl, ret_bool hv.out⟩
  · have d1 : (1 : Int) ≤ (m.length : Int) := by omega
    by_cases h2 : m.length ≤ 64
    · have d2 : (m.length : Int) ≤ 64 := by omega
      have hv : Hid (sameB m 1 3 = ptsB m) := hid (by unfold ptsB; rw [decide_eq_true h2, decide_eq_true (by omega)]; rfl)
      go_enter Tryz.func61, Tryz.ntmps61
      go_wp2_with fail
      refine hsa.mono ?_
      rintro e w1 ⟨rfl, rfl⟩
      go_wp2_with fail
      go_ret
      exact ⟨rfl, ret_bool hv.out⟩
    · have d2 : ¬ (m.length : Int) ≤ 64 := by omega
      have hv : Hid (false = ptsB m) := hid (by unfold ptsB; rw [decide_eq_false h2, Bool.false_and, Bool.and_false])
      go_enter Tryz.func61, Tryz.ntmps61
      go_wp2_with fail
      go_ret
      exact ⟨rfl, ret_bool hv.out⟩

theorem hfits_any {R : Mem → Value → Rat → Prop} (X : Nat → Bool) (w : World) (u : Value) (m : List (List Rat)) (xo : Option Addr) (xl xc : Nat) (hu : SlV (SlV R 3) 1 (mk X w) u m) (hl : m.length ≤ 1099511627776) : Calls Tryz.prog 57 #[u, .slice xo xl xc] w (fun e w' => w' = w ∧ e = .returned (.bool (ptsB m && decide (xl = colsL m)))) := by
  have hpo := epoints_any X w u m hu hl
  obtain ⟨ao, ca, rfl, hca, hsa⟩ := hu
  have hha := hsa.hd
  cases hp : ptsB m
  · rw [hp] at hpo
    clear hp
    go_enter Tryz.func57, Tryz.ntmps57
    go_wp2_with fail
    refine hpo.mono ?_
    rintro e w1 ⟨rfl, rfl⟩
    go_wp2_with fail
    go_ret
    exact ⟨rfl, rfl⟩
  · have h0 : 0 < m.length := by have := (ptsB_true.1 hp).1; omega
    rw [hp] at hpo
    obtain ⟨a2, c2, hX2, hc2, hcl2, hq2⟩ := hsa.row 0 h0
    have k10 := hc2.out noY w (ExtX.refl _) rfl
    have hcol := colsL_pos h0
    rw [← hcol] at k10
    obtain ⟨y, hy⟩ : ∃ y, colsL m = y := ⟨_, rfl⟩
    rw [hy] at k10 ⊢
    clear hp hcol hy hc2 hq2 hcl2
    by_cases hxy : xl = y
    · have d2 : ((xl : Int) == (y : Int)) = true := beqT (by omega)
      have hv : Hid (true = (true && decide (xl = y))) := hid (by rw [decide_eq_true hxy]; rfl)
      clear hxy
      go_enter Tryz.func57, Tryz.ntmps57
      go_wp2_with fail
      refine hpo.mono ?_
      rintro e w1 ⟨rfl, rfl⟩
      go_wp2_with (with_reducible refine up_ix1 slRats (by omega) (by assumption) ?_)
      go_ret
      exact ⟨rfl, ret_bool hv.out⟩
    · have d2 : ((xl : Int) == (y : Int)) = false := beqF (by omega)
      have hv : Hid (false = (true && decide (xl = y))) := hid (by rw [decide_eq_false hxy]; rfl)
      clear hxy
      go_enter Tryz.func57, Tryz.ntmps57
      go_wp2_with fail
      refine hpo.mono ?_
      rintro e w1 ⟨rfl, rfl⟩
      go_wp2_with (with_reducible refine up_ix1 slRats (by omega) (by assumption) ?_)
      go_ret
      exact ⟨rfl, ret_bool hv.out⟩
end Go.Proofs.YthipmbmjodhiiaaGreat


namespace Go.Lin
open Go.Lim
/-- The sum of the first k products. -/
def dotN (l m : List Rat) : Nat → Rat
  | 0 => 0
  | k + 1 => dotN l m k + l.getD k 0 * m.getD k 0
def dotL (l m : List Rat) : Rat := dotN l m l.length
theorem dotN_sm (l m : List Rat) (k : Nat) : dotN l m k = sm k fun q => l.getD q 0 * m.getD q 0 := by
  induction k with
  | zero => rfl
  | succ k ih => unfold dotN sm; rw [ih]
theorem dotN_hq {l m : List Rat} {B : Nat} (hl : Go.Rep.BR B l) (hm : Go.Rep.BR B m) (hB : 1 ≤ B) (k : Nat) : hq (dotN l m k) ≤ 1 + k * (2 * B + 1) := by
  have hg : ∀ (x : List Rat), Go.Rep.BR B x → ∀ q, hq (x.getD q 0) ≤ B := fun x hx q => by
    by_cases h : q < x.length
    · rw [List.getD_eq_getElem?_getD, List.getElem?_eq_getElem h]; exact hx _ (List.getElem_mem h)
    · rw [List.getD_eq_getElem?_getD, List.getElem?_eq_none (by omega)]
      show hq 0 ≤ B
      rw [hq_zero]; exact hB
  induction k with
  | zero => show hq 0 ≤ _; rw [hq_zero]; omega
  | succ k ih =>
    have h1 := hq_mul (l.getD k 0) (m.getD k 0)
    have h2 := hq_add (dotN l m k) (l.getD k 0 * m.getD k 0)
    have h3 := hg l hl k
    have h4 := hg m hm k
    show hq (dotN l m k + l.getD k 0 * m.getD k 0) ≤ _
    rw [Nat.add_mul, Nat.one_mul]
    omega
end Go.Lin


namespace Go.Lin
open Go.Lim Go.Rep
theorem brD {D : Nat} {x : List Rat} (hx : BR D x) (hD : 1 ≤ D) (q : Nat) : hq (x.getD q 0) ≤ D := by
  rw [List.getD_eq_getElem?_getD]
  by_cases h : q < x.length
  · rw [List.getElem?_eq_getElem h]; exact hx _ (List.getElem_mem _)
  · rw [List.getElem?_eq_none (by omega)]; simp [hq_zero, hD]
theorem dot_bounds2 {B C : Nat} {l m : List Rat} (hl : BR B l) (hm : BR C m) (hB : 1 ≤ B) (hC : 1 ≤ C) (hB2 : 1 + l.length * (B + C + 1) ≤ 68719476736) :
    (∀ k, k ≤ l.length → hq (dotN l m k) ≤ 68719476736) ∧ ∀ k, k < l.length → hq (l.getD k 0 * m.getD k 0) ≤ 68719476736 := by
  have g : ∀ {D : Nat} {x : List Rat}, BR D x → 1 ≤ D → ∀ q, hq (x.getD q 0) ≤ D := fun hx hD q => brD hx hD q
  have hp : ∀ k, hq (l.getD k 0 * m.getD k 0) ≤ B + C := fun k => by
    have := hq_mul (l.getD k 0) (m.getD k 0); have := g hl hB k; have := g hm hC k; omega
  have hd : ∀ k, hq (dotN l m k) ≤ 1 + k * (B + C + 1) := fun k => by
    induction k with
    | zero => simp [dotN, hq_zero]
    | succ k ih =>
      have := hq_add (dotN l m k) (l.getD k 0 * m.getD k 0)
      have := hp k
      show hq (dotN l m k + l.getD k 0 * m.getD k 0) ≤ _
      rw [Nat.succ_mul]; omega
  refine ⟨fun k hk => Nat.le_trans (hd k) (Nat.le_trans (Nat.add_le_add_left (Nat.mul_le_mul_right _ hk) 1) hB2), fun k hk => ?_⟩
  have := hp k
  have : B + C + 1 ≤ l.length * (B + C + 1) := Nat.le_mul_of_pos_left _ (by omega)
  omega
theorem dot_vec {c : Nat} {u z : List Rat} (hu : u.length = c) : dotL u z = dot c (vec u) (vec z) := by
  unfold dotL; rw [dotN_sm, hu]; rfl
theorem fromM_bm {B : Nat} {p : Mat} {x : List Rat} {c : Nat} (hp : BM B p) (hx : BR B x) (hB : 1 ≤ B) : BM (2 * B + 1) (fromM c p x) := by
  have g : ∀ {x : List Rat}, BR B x → ∀ q, hq (x.getD q 0) ≤ B := fun hx q => brD hx hB q
  intro r hr q hq'
  unfold fromM at hr
  obtain ⟨s, hs, rfl⟩ := List.mem_map.1 hr
  obtain ⟨j, hj, rfl⟩ := List.mem_map.1 hq'
  have := hq_sub (s.getD j 0) (x.getD j 0)
  have := g (hp s hs) j
  have := g hx j
  omega
theorem sign_cases (x : Rat) : (0 < x ∧ x.num.sign = 1) ∨ (x = 0 ∧ x.num.sign = 0) ∨ (x < 0 ∧ x.num.sign = -1) := by
  have hn : 0 ≤ x.num ↔ 0 ≤ x := Rat.num_nonneg
  have hz : x.num = 0 ↔ x = 0 := Rat.num_eq_zero
  rcases Int.lt_trichotomy x.num 0 with h | h | h
  · refine .inr (.inr ⟨?_, Int.sign_eq_neg_one_of_neg h⟩)
    have : ¬ 0 ≤ x := fun h2 => by have := hn.2 h2; omega
    grind
  · exact .inr (.inl ⟨hz.1 h, by rw [h]; rfl⟩)
  · refine .inl ⟨?_, Int.sign_eq_one_of_pos h⟩
    have h1 : 0 ≤ x := hn.1 (by omega)
    have h2 : ¬ x = 0 := fun h2 => by have := hz.2 h2; omega
    grind
def okE (b : Bool) : Int := if b then 0 else 6
end Go.Lin


namespace Go.Lim

def combs : Nat → Nat → Int → List (List Int)
  | _, 0, _ => [[]]
  | 0, _ + 1, _ => []
  | m + 1, h + 1, lo => (combs m h (lo + 1)).map (lo :: ·) ++ combs m (h + 1) (lo + 1)

theorem combs_length : ∀ (m h : Nat) (lo : Int), (combs m h lo).length = ch m h
  | m, 0, lo => by rw [ch_zero]; cases m <;> rfl
  | 0, h + 1, lo => rfl
  | m + 1, h + 1, lo => by rw [combs, ch, List.length_append, List.length_map, combs_length m h, combs_length m (h + 1)]

def up (lo : Int) : Nat → List Int
  | 0 => []
  | k + 1 => lo :: up (lo + 1) k
theorem combs_zero (m : Nat) (lo : Int) : combs m 0 lo = [[]] := by cases m <;> rfl
theorem combs_mem : ∀ (m h : Nat) (lo : Int) (l : List Int), l ∈ combs m h lo → l.length = h ∧ (∀ x ∈ l, lo ≤ x ∧ x < lo + m) ∧ l.Pairwise (· < ·)
  | m, 0, lo, l, hl => by
    rw [combs_zero, List.mem_singleton] at hl; subst hl; simp
  | 0, h + 1, lo, l, hl => by simp [combs] at hl
  | m + 1, h + 1, lo, l, hl => by
    rw [combs, List.mem_append, List.mem_map] at hl
    rcases hl with ⟨r, hr, rfl⟩ | hl
    · obtain ⟨h1, h2, h3⟩ := combs_mem m h (lo + 1) r hr
      refine ⟨by simp [h1], fun x hx => ?_, List.pairwise_cons.2 ⟨fun x hx => ?_, h3⟩⟩
      · rcases List.mem_cons.1 hx with rfl | hx
        · omega
        · have := h2 x hx; omega
      · have := h2 x hx; omega
    · obtain ⟨h1, h2, h3⟩ := combs_mem m (h + 1) (lo + 1) l hl
      exact ⟨h1, fun x hx => by have := h2 x hx; omega, h3⟩

end Go.Lim


namespace Go.Lin
open Go.Lim Go.Rep
theorem zeroB_yes {r : List Rat} (h : ∀ k (hk : k < r.length), r[k] = 0) : zeroB r = true := by
  unfold zeroB
  rw [List.all_eq_true]
  intro x hx
  obtain ⟨k, hk, rfl⟩ := List.getElem_of_mem hx
  simpa using h k hk
theorem zeroB_no {r : List Rat} {k : Nat} (hk : k < r.length) (h : r[k] ≠ 0) : zeroB r = false := by
  unfold zeroB
  rw [List.all_eq_false]
  exact ⟨r[k], List.getElem_mem _, by simpa using h⟩
def unitL (d : Nat) : List Rat := (List.replicate d (0 : Rat)).set 0 1
theorem unitL_len (d : Nat) : (unitL d).length = d := by simp [unitL]
theorem unitL_nz {d : Nat} (hd : 0 < d) : nz d (vec (unitL d)) := ⟨0, hd, by
  unfold vec unitL
  rw [List.getD_eq_getElem?_getD, List.getElem?_eq_getElem (by simpa using hd)]
  simp⟩
theorem unitL_br (d : Nat) : BR 1 (unitL d) := fun q hq' => by
  unfold unitL at hq'
  rcases List.mem_or_eq_of_mem_set hq' with h | rfl
  · rw [List.eq_of_mem_replicate h, hq_zero]; exact Nat.le_refl _
  · decide +kernel
end Go.Lin
namespace Go.Proofs.YthipmbmjodhiiaaGreat
open Go.RowKit Go.Rep Go.Lim Go.Lin

set_option maxRecDepth 100000 in
theorem hzero_any (X : Nat → Bool) (w : World) (u : Value) (r : List Rat) (hX : HX X w) (hu : RV (mk X w) u r) (hl : r.length ≤ 1000) : Calls Tryz.prog 88 #[u] w (BOut w (zeroB r)) := by
  obtain ⟨ao, ca, rfl, hca, hsa⟩ := hu
  have hha := hsa.hd
  obtain ⟨c, hc⟩ : ∃ c, r.length = c := ⟨_, rfl⟩
  have hc' := hid hc
  have hno := hid (fun (h : ∀ k (hk : k < r.length), r[k] = 0) => (zeroB_yes h).symm)
  have hye := hid (fun k (hk : k < r.length) (h : r[k] ≠ 0) => (zeroB_no hk h).symm)
  rw [hc] at hl hca hha ⊢
  clear hc
  go_enter Tryz.func88, Tryz.ntmps88
  go_wp2_with fail
  go_loopw [7] (fun cc wr => ∃ j : Nat, cc = .int .i64 j ∧ j ≤ c ∧ Hid (∀ k (hk : k < r.length), k < j → r[k] = 0) ∧ Ext w wr) (fun cc _ => c - (intOf cc).toNat)
  case atStart => exact ⟨0, rfl, Nat.zero_le _, hid (fun p hp h => by omega), ExtX.refl _⟩
  case round =>
    obtain ⟨j, rfl, hj, hzj, hEj⟩ := hrel
    by_cases hlj : j < c
    · have hjr : j < r.length := by rw [hc'.out]; exact hlj
      have hq2 := hsa.mono QV.mono (mk_ext hEj)
      have hXr := hX.ext hEj
      have bx := Bx.new wr #[.bool false, .slice none 0 0, .slice none 0 0] 34
      have hye2 := hid (hye.out j hjr)
      have hzj2 : Hid (r[j] = 0 → ∀ k (hk : k < r.length), k < j + 1 → r[k] = 0) := hid fun h k hk hkj => by
        by_cases e : k = j
        · subst e; exact h
        · exact hzj.out k hk (by omega)
      go_wp2_with (first | (with_reducible refine up_ixn slRat (by omega) (by assumption) ?_) | ((with_reducible show wpList _ _ _ (⟨_, .load 34 _, _, _, _, _⟩ :: _) _ _); refine st_loadElem stRat j hq2 hjr rfl (by simp) QV.agg ?_; intro u5 hu5; obtain ⟨s5, a5, n5, c5, d5, m5, e5, rfl⟩ := hu5.shape) | ((with_reducible show wpList _ _ _ (⟨_, .store _ _ _, _, _, _, _⟩ :: _) _ _); refine st_storeBox stRat rfl rfl bx rfl rfl (one3 _ _ _ _ _ _ _) ?_; intro w5 r1 r2; have hE5 : Ext wr w5 := ExtX.box ((ExtX.refl wr).alloc _) r2 (Nat.le_refl _); have k10 := r1.cell 0 rfl; have k11 := r1.cell 1 rfl; have k12 := r1.cell 2 rfl; have hX5 := hXr.ext hE5; have hu6 := mkx QV.mono hu5 hE5))
      refine (qsign X _ _ _ hX5 hu6).mono ?_
      rintro e w7 ⟨hE7, rfl⟩
      have hE9 := hEj.trans (hE5.trans hE7)
      clear k10 k11 k12
      rcases sign_cases r[j] with ⟨hs, hsg⟩ | ⟨hs, hsg⟩ | ⟨hs, hsg⟩
      · have hv := hid (hye2.out (by intro h; rw [h] at hs; exact absurd hs (by grind)))
        rw [hsg]
        clear hs hsg
        go_wp2_with fail
        go_ret
        exact ⟨hE9, ret_bool hv.out⟩
      · have hnx := hid (hzj2.out hs)
        rw [hsg]
        clear hs hsg
        go_wp2_with fail
        go_roundw
        case rel => exact ⟨j + 1, by go_num, by omega, hnx, hE9⟩
        case measure => simp [intOf]; omega
      · have hv := hid (hye2.out (by intro h; rw [h] at hs; exact absurd hs (by grind)))
        rw [hsg]
        clear hs hsg
        go_wp2_with fail
        go_ret
        exact ⟨hE9, ret_bool hv.out⟩
    · have hv := hid (hno.out fun k hk => hzj.out k hk (by rw [hc'.out] at hk; omega))
      go_wp2_with fail
      go_ret
      exact ⟨hEj, ret_bool hv.out⟩

set_option maxRecDepth 100000 in
theorem hunit_any (X : Nat → Bool) (w : World) (d : Nat) (hX : HX X w) (hd : 0 < d) (hd2 : d ≤ 1000) : Calls Tryz.prog 89 #[.int .i64 (d : Int)] w (ROut X w RC (unitL d)) := by
  go_enter Tryz.func89, Tryz.ntmps89
  go_wp2_with ((with_reducible show wpList _ _ _ (⟨_, .makeSlice _ _ _, _, _, _, _⟩ :: _) _ _); refine st_make (R := QC) slRat QC.elem (0 : Rat) (fun _ => QC.zero _) X hX w.heap.size (Nat.le_refl _) d rfl rfl rfl (by omega) (by omega) ?_; intro xo w5 hO5 hE5)
  have hxd : Hd xo d := by have := hO5.hd; rw [List.length_replicate] at this; exact this
  have hX5 := hX.ext hE5
  have hXu5 : HX (un X xo) w5 := hO5.unX hX5
  have hv1 : Hid ((((1 : Int) : Rat)) = 1) := hid rfl
  refine (qfrom (un X xo) w5 1 hXu5 (by decide) (by decide)).mono ?_
  rintro e w6 ⟨hE6, u6, rfl, hu6⟩
  rw [hv1.out] at hu6
  have hO6 := hO5.ext0 QC.elem hE6
  go_wp2_with (first | (with_reducible refine up_ixn slRat (by omega) (by assumption) ?_) | ((with_reducible show wpList _ _ _ (⟨_, .store _ _ _, _, _, _, _⟩ :: _) _ _); refine st_store tyRat QC.elem 0 rfl (by simp) hO6 (by simpa using hd) _ 1 rfl hu6 ?_; intro w7 hO7 hE7))
  have hE57 : Ext w w7 := (hE5.trans hE6).own hO6 (Nat.le_refl _) hE7
  have hc7 := hO7.lenCap
  have hlen : ((List.replicate d (0 : Rat)).set 0 1).length = d := by simp
  rw [hlen] at hc7
  have hs7 := hO7.sl QC.elem
  go_ret
  exact ⟨hE57, _, rfl, xo, d, by rw [unitL_len]; rfl, by rw [unitL_len]; exact hc7, hs7⟩
end Go.Proofs.YthipmbmjodhiiaaGreat


namespace Go.Lin
open Go.Lim Go.Rep
def rowsL (z : Mat) (s : List Int) : Mat := s.map fun i => z.getD i.toNat []
theorem rowsL_len (z : Mat) (s : List Int) : (rowsL z s).length = s.length := by simp [rowsL]
theorem rowsL_get {z : Mat} {s : List Int} {j : Nat} (hj : j < (rowsL z s).length) (hs : j < s.length) {i : Nat} (hi : i < z.length) (h : s[j] = (i : Int)) : (rowsL z s)[j] = z[i] := by
  simp [rowsL, h, List.getD_eq_getElem?_getD, hi]
theorem rowsL_mem {z : Mat} {s : List Int} (hb : ∀ x ∈ s, 0 ≤ x ∧ x < (z.length : Int)) : ∀ r ∈ rowsL z s, r ∈ z := fun r hr => by
  unfold rowsL at hr
  obtain ⟨x, hx, rfl⟩ := List.mem_map.1 hr
  have := hb x hx
  have hl : x.toNat < z.length := by omega
  rw [show z.getD x.toNat [] = z[x.toNat] by simp [List.getD_eq_getElem?_getD, hl]]
  exact List.getElem_mem _
end Go.Lin
namespace Go.Proofs.YthipmbmjodhiiaaGreat
open Go.RowKit Go.Rep Go.Lim Go.Lin
/-- A list of rows that lies in new blocks. -/
def RowsOut (X : Nat → Bool) (w : World) (m : Mat) (e : Ending) (w' : World) : Prop := Ext w w' ∧ ∃ (ao : Option Addr) (cap : Nat), e = .returned (.slice ao m.length cap) ∧ OL RV 1 X w.heap.size 27 w' ao cap m

set_option maxRecDepth 100000 in
theorem erows_any (X : Nat → Bool) (w : World) (u : Value) (z : Mat) (ro : Option Addr) (s : List Int) (rc : Nat) (hX : HX X w) (hu : MV (mk X w) u z) (hs : Sl (IntIn .i64) 1 w.cell? ro s) (hb : ∀ x ∈ s, 0 ≤ x ∧ x < (z.length : Int)) (hl : s.length ≤ 1000) : Calls Tryz.prog 75 #[u, .slice ro s.length rc] w (RowsOut X w (rowsL z s)) := by
  rw [← mk_noY] at hs
  obtain ⟨ao, ca, rfl, hca, hsa⟩ := hu
  have hha := hsa.hd
  have hhs := hs.hd
  obtain ⟨M, hM⟩ : ∃ M, rowsL z s = M := ⟨_, rfl⟩
  have hMl : M.length = s.length := by rw [← hM]; exact rowsL_len z s
  have hMi := hid (show ∀ j (h1 : j < M.length) (h2 : j < s.length) (i : Nat) (h3 : i < z.length), s[j] = (i : Int) → M[j] = z[i] from fun j h1 h2 i h3 h => by subst hM; exact rowsL_get h1 h2 h3 h)
  rw [hM]
  have hb' := hid hb
  obtain ⟨n, hn⟩ : ∃ n, z.length = n := ⟨_, rfl⟩
  have hn' := hid hn
  obtain ⟨k, hk⟩ : ∃ k, s.length = k := ⟨_, rfl⟩
  have hk' := hid hk
  rw [hk] at hhs hl hMl ⊢
  rw [hn] at hha hca ⊢
  have hMl' := hid hMl
  have hMl1 : M.length ≤ k := by omega
  have hMl2 : k ≤ M.length := by omega
  clear hM hb hn hk hMl
  go_enter Tryz.func75, Tryz.ntmps75
  go_wp2_with fail
  go_loopw [5, 10] (fun o cc wr => ∃ (i : Nat) (oo : Option Addr) (co : Nat), cc = .int .i64 i ∧ o = .slice oo i co ∧ i ≤ k ∧ OL RV 1 X w.heap.size 27 wr oo co (M.take i) ∧ Ext w wr) (fun _ cc _ => k - (intOf cc).toNat)
  case atStart => exact ⟨0, none, 0, rfl, rfl, Nat.zero_le _, OL.nil _ _ _ _ _ _, ExtX.refl _⟩
  case round =>
    obtain ⟨i, oo, co, rfl, rfl, hi, hO, hE⟩ := hrel
    have hXr : HX X wr := hX.ext hE
    have hbase := hE.size
    by_cases hlt : i < k
    · have his : i < s.length := by rw [hk'.out]; exact hlt
      have hiM : i < M.length := by omega
      have htk := hid (take_snoc M i hiM)
      have hln := hid (len_take (l := M) (i := i) (by omega))
      have hc := (hs.mono (IntIn.mono _) (mk_ext hE)).int i his
      obtain ⟨h1, h2⟩ := hb'.out s[i] (List.getElem_mem _)
      obtain ⟨q, hq⟩ := Int.eq_ofNat_of_zero_le h1
      rw [hn'.out] at h2
      have hqn : q < n := by omega
      have hqz : q < z.length := by rw [hn'.out]; exact hqn
      have hMq := hMi.out i hiM his q hqz hq
      rw [hq] at hc
      have hsr : Sl RV 1 (mk (un X oo) wr) ao z := hsa.old RV.mono hE (fun j hj => hO.ob_lt hj)
      obtain ⟨a1, c1, hX1, hc1, hcl1, hq1⟩ := hsr.row q hqz
      have k00 := hc1.out noY wr (ExtX.refl _) rfl
      obtain ⟨r, hr⟩ : ∃ r, z[q] = r := ⟨_, rfl⟩
      rw [hr] at k00 hcl1 hq1 hMq
      rw [hMq] at htk
      have hRV : RV (mk (un X oo) wr) (.slice a1 r.length c1) r := ⟨a1, c1, rfl, hcl1, hq1⟩
      obtain ⟨d, hd⟩ : ∃ d, r.length = d := ⟨_, rfl⟩
      rw [hd] at k00 hRV
      clear hr hc1 hcl1 hq1 hMq hd h1 h2 hq
      go_wp2_with (first
        | (with_reducible refine up_ix1 slInt (by omega) (by assumption) ?_)
        | (with_reducible refine up_ix1 slRats (by omega) (by assumption) ?_)
        | (at_builtin; refine st_append1n (l := M.take i) slRats rfl RV.elem hbase hXr i hln.out rfl rfl hO (.slice a1 d c1) r rfl hRV (by omega) (by omega) ?_; intro oo2 co2 w7 hO7 hE7 hor))
      have hE8 := hE.own hO (Nat.le_refl _) hE7
      rw [htk.out] at hO7
      go_roundw
      case rel => exact ⟨i + 1, oo2, co2, by go_num, by go_num, by omega, hO7, hE8⟩
      case measure => simp [intOf]; omega
    · have hil : i = k := by omega
      subst hil
      rw [List.take_of_length_le (by omega)] at hO
      go_wp2_with fail
      go_ret
      exact ⟨hE, oo, co, by rw [hMl'.out]; rfl, hO⟩
end Go.Proofs.YthipmbmjodhiiaaGreat


namespace Go.Lim
theorem combs_all : ∀ (m h : Nat) (lo : Int) (l : List Int), l.length = h → (∀ x ∈ l, lo ≤ x ∧ x < lo + m) → l.Pairwise (· < ·) → l ∈ combs m h lo
  | m, 0, lo, l, h1, _, _ => by
    have : l = [] := List.eq_nil_of_length_eq_zero h1
    subst this; rw [combs_zero]; simp
  | 0, h + 1, lo, l, h1, h2, _ => by
    match l, h1 with
    | x :: l, _ => have := h2 x (by simp); omega
  | m + 1, h + 1, lo, l, h1, h2, h3 => by
    match l, h1 with
    | x :: l, h1 =>
      rw [List.pairwise_cons] at h3
      unfold combs
      rw [List.mem_append]
      by_cases hx : x = lo
      · subst hx
        refine .inl (List.mem_map.2 ⟨l, combs_all m h (x + 1) l (by simpa using h1) (fun y hy => ?_) h3.2, rfl⟩)
        have := h2 y (by simp [hy]); have := h3.1 y hy; omega
      · refine .inr (combs_all m (h + 1) (lo + 1) (x :: l) (by simpa using h1) (fun y hy => ?_) (List.pairwise_cons.2 h3))
        have := h2 x (by simp)
        rcases List.mem_cons.1 hy with rfl | hy
        · omega
        · have := h2 y (by simp [hy]); have := h3.1 y hy; omega
end Go.Lim
namespace Go.Lin
open Go.Lim Go.Rep
theorem vecs_rows {z : Mat} {s : List Int} (hb : ∀ x ∈ s, 0 ≤ x ∧ x < (z.length : Int)) : vecs (rowsL z s) = pickV (vecs z) (s.map Int.toNat) := by
  unfold vecs rowsL pickV
  rw [List.map_map, List.map_map]
  refine List.map_congr_left fun x hx => ?_
  have := hb x hx
  have hl : x.toNat < z.length := by omega
  simp [List.getD_eq_getElem?_getD, hl]
/-- A direction that is no worse than cnt, whatever follows. -/
def Bd (c : Nat) (z : Mat) (cnt : Nat) (x : Vec) : Prop := ∀ l, IsDep c (onL c x (vecs z)) l → cnt ≤ posN c x (vecs z) + l
theorem Bd.le {c cnt n : Nat} {z : Mat} {x : Vec} (h : Bd c z cnt x) (hn : n ≤ cnt) : Bd c z n x := fun l hl => Nat.le_trans hn (h l hl)
theorem Bd.congr {c cnt : Nat} {z : Mat} {x y : Vec} (h : Bd c z cnt x) (he : ∀ j, j < c → x j = y j) : Bd c z cnt y := fun l hl => by
  obtain ⟨h1, h2, _⟩ := vec_congr he (vecs z)
  have := h l (by rw [h2]; exact hl)
  rwa [h1] at this
/-- A row multiplied by a sign. -/
def sgL (s : Int) (l : List Rat) : List Rat := l.map fun x => (s : Rat) * x
theorem sgL_len (s : Int) (l : List Rat) : (sgL s l).length = l.length := by simp [sgL]
theorem sgL_vec (s : Int) (l : List Rat) (j : Nat) : vec (sgL s l) j = (s : Rat) * vec l j := by
  unfold vec sgL
  rw [List.getD_eq_getElem?_getD, List.getD_eq_getElem?_getD, List.getElem?_map]
  cases l[j]? with
  | none => simp
  | some y => simp
theorem sgL_nz {s : Int} (hs : s = 1 ∨ s = -1) {c : Nat} {l : List Rat} (h : nz c (vec l)) : nz c (vec (sgL s l)) := by
  obtain ⟨j, hj, hn⟩ := h
  refine ⟨j, hj, ?_⟩
  rw [sgL_vec]
  rcases hs with rfl | rfl
  · have : ((1 : Int) : Rat) = 1 := rfl
    rw [this]; grind
  · have : ((-1 : Int) : Rat) = -1 := rfl
    rw [this]; grind
theorem dot_sg (c : Nat) (s : Int) (l : List Rat) (v : Vec) : dot c (vec (sgL s l)) v = (s : Rat) * dot c (vec l) v := by
  rw [← dot_mul]
  exact dot_congr fun j _ => sgL_vec s l j
theorem sgL_ort {s : Int} {c : Nat} {l : List Rat} {M : List Vec} (h : Ort c M (vec l)) : Ort c M (vec (sgL s l)) := fun v hv => by
  rw [dot_comm, dot_sg, dot_comm, h v hv]; grind
theorem sgL_br {s : Int} (hs : s = 1 ∨ s = -1) {B : Nat} {l : List Rat} (h : BR B l) : BR (B + 1) (sgL s l) := fun q hq' => by
  unfold sgL at hq'
  obtain ⟨x, hx, rfl⟩ := List.mem_map.1 hq'
  have h1 := hq_mul (s : Rat) x
  have h2 : hq (s : Rat) ≤ 1 := by rcases hs with rfl | rfl <;> decide +kernel
  have := h x hx
  omega
section
variable {n c : Nat} {z : Mat} (hs : Shp n c z)
include hs
theorem rows_shp {s : List Int} (hb : ∀ x ∈ s, 0 ≤ x ∧ x < (z.length : Int)) (O : Mat) (hO : ∀ r ∈ O, r.length = c) : Shp (rowsL z s ++ O).length c (rowsL z s ++ O) := ⟨rfl, fun r hr => by
  rcases List.mem_append.1 hr with h | h
  · exact hs.2 r (rowsL_mem hb r h)
  · exact hO r h⟩
theorem tried_none {s : List Int} {cnt : Nat} (hb : ∀ x ∈ s, 0 ≤ x ∧ x < (z.length : Int)) (hk : (nullM (rowsL z s ++ nullM z c) c).length ≠ 1) : Tried c (vecs z) (vecs (nullM z c)) cnt (s.map Int.toNat) := by
  have h := null_dim (rows_shp hs hb (nullM z c) nullM_row)
  rw [vecs_app, vecs_rows hb] at h
  exact tried_no h hk
theorem null_one {s : List Int} (hb : ∀ x ∈ s, 0 ≤ x ∧ x < (z.length : Int)) (hk : (nullM (rowsL z s ++ nullM z c) c).length = 1) (L : List Rat) (hL : (nullM (rowsL z s ++ nullM z c) c)[0]'(by omega) = L) :
    L.length = c ∧ nz c (vec L) ∧ Ort c (pickV (vecs z) (s.map Int.toNat) ++ vecs (nullM z c)) (vec L) := by
  have hM := rows_shp hs hb (nullM z c) nullM_row
  have hB := null_basis hM
  have hd := null_dim hM
  rw [vecs_app, vecs_rows hb] at hB hd
  have he : ent (nullM (rowsL z s ++ nullM z c) c) 0 = vec L := by
    funext j
    unfold ent vec
    rw [show (nullM (rowsL z s ++ nullM z c) c).getD 0 [] = L by rw [List.getD_eq_getElem?_getD, List.getElem?_eq_getElem (by omega), Option.getD_some, hL]]
  have hm := hB.mem 0 (by omega)
  rw [he] at hm
  refine ⟨by rw [← hL]; exact nullM_row _ (List.getElem_mem _), ?_, hm⟩
  refine nz_of fun h0 => ?_
  have := hB.li (fun _ => 1) (fun j hj => by
    unfold cmb
    rw [hk]
    show 0 + 1 * ent (nullM (rowsL z s ++ nullM z c) c) 0 j = 0
    rw [he, h0 j hj]; grind) 0 (by omega)
  exact absurd this (by decide)
end
theorem ort_out {c : Nat} {z : Mat} {s : List Int} {y : Vec} (h : Ort c (pickV (vecs z) (s.map Int.toNat) ++ vecs (nullM z c)) y) : Ort c (vecs (nullM z c)) y := (Ort.app.1 h).2
theorem tried_two {c : Nat} {z : Mat} {s : List Int} {cnt : Nat} {L : List Rat} (hn : nz c (vec L)) (ho : Ort c (pickV (vecs z) (s.map Int.toNat) ++ vecs (nullM z c)) (vec L)) (h1 : Bd c z cnt (vec (sgL 1 L))) (h2 : Bd c z cnt (vec (sgL (-1) L))) : Tried c (vecs z) (vecs (nullM z c)) cnt (s.map Int.toNat) := by
  have e1 : ∀ j, j < c → vec (sgL 1 L) j = vec L j := fun j _ => by rw [sgL_vec]; have : ((1 : Int) : Rat) = 1 := rfl; rw [this]; grind
  have e2 : ∀ j, j < c → vec (sgL (-1) L) j = -1 * vec L j := fun j _ => by rw [sgL_vec]; rfl
  exact tried_of hn ho (h1.congr e1) (h2.congr e2)
theorem Sofar.le {c cnt : Nat} {z us : Mat} (h : Sofar c z cnt us) : cnt ≤ z.length + 1 := by
  rcases h with ⟨rfl, _⟩ | h
  · exact Nat.le_refl _
  · have : cnt = lexc c (vecs us) (vecs z) := h.cnt.symm
    rw [this]
    have := List.countP_le_length (p := fun v => lexOk c (vecs us) v) (l := vecs z)
    unfold lexc
    simp [vecs] at this ⊢
    omega
/-- The rows' numbers of the two null spaces that the search meets. -/
theorem search_hb {n c B : Nat} {z : Mat} (hs : Shp n c z) (hB : HB B z) (hc3 : c ≤ 3) : Tame z c ∨ 6500 < B := by
  by_cases h : B ≤ 6500
  · refine .inl (tame_rank hs hB (piv_le_cols hs) ?_)
    have : 35 ^ c ≤ 35 ^ 3 := Nat.pow_le_pow_right (by decide) hc3
    have := Nat.mul_le_mul this h
    have e : 35 ^ 3 * 6500 = 278687500 := by decide
    omega
  · exact .inr (by omega)
theorem search_inner {n c B : Nat} {z : Mat} {s : List Int} (hs : Shp n c z) (hB : HB B z) (hBB : B ≤ 6500) (hc3 : c ≤ 3) (hb : ∀ x ∈ s, 0 ≤ x ∧ x < (z.length : Int)) (hr : s.length + 1 = (redP z c).2.length) :
    Tame (rowsL z s ++ nullM z c) c ∧ HB (1500625 * B) (nullM (rowsL z s ++ nullM z c) c) ∧ (rowsL z s ++ nullM z c).length + 1 = c := by
  have hM := rows_shp hs hb (nullM z c) nullM_row
  have hpc := piv_le_cols hs
  have hlen : (rowsL z s ++ nullM z c).length + 1 = c := by rw [List.length_append, rowsL_len, nullM_len hs]; omega
  have hp2 : (redP (rowsL z s ++ nullM z c) c).2.length ≤ 2 := by have := piv_le_rows hM; omega
  have hrowsB : HB B (rowsL z s) := fun i j => by
    unfold ent
    by_cases hi : i < (rowsL z s).length
    · have hm := rowsL_mem hb _ (List.getElem_mem hi)
      obtain ⟨q, hq, he⟩ := List.getElem_of_mem hm
      rw [show (rowsL z s).getD i [] = (rowsL z s)[i] by simp [List.getD_eq_getElem?_getD, hi], ← he]
      have := hB q j
      unfold ent at this
      rwa [show z.getD q [] = z[q] by simp [List.getD_eq_getElem?_getD, hq]] at this
    · rw [show (rowsL z s).getD i [] = [] by rw [List.getD_eq_getElem?_getD, List.getElem?_eq_none (by omega)]; rfl]
      have : ([] : List Rat).getD j 0 = 0 := rfl
      rw [this, hq_zero]; exact hB.pos
  have hMB : HB (1225 * B) (rowsL z s ++ nullM z c) := by
    by_cases hf : (redP z c).2.length = c
    · have hnil : nullM z c = [] := List.eq_nil_of_length_eq_zero (by rw [nullM_len hs]; omega)
      rw [hnil, List.append_nil]
      exact hrowsB.mono (by omega)
    · have h2 : (redP z c).2.length ≤ 2 := by omega
      have := nullM_hb hB hs h2
      exact HB.app (hrowsB.mono (by omega)) (this.mono (by simp))
  refine ⟨tame_rank hM hMB hp2 ?_, ?_, hlen⟩
  · have e : 7 * (35 ^ 2 * (1225 * B)) = 10504375 * B := by omega
    omega
  · have := nullM_hb hMB hM hp2
    exact this.mono (by omega)
end Go.Lin


namespace Go.Lin
open Go.Lim Go.Rep
/-- The rows on a direction's other side. -/
def negM (c : Nat) (u : List Rat) (z : Mat) : Nat := z.countP fun r => decide (dot c (vec u) (vec r) < 0)
theorem posM_succ (c : Nat) (u : List Rat) {z : Mat} {k : Nat} (h : k < z.length) : posM c u (z.take (k + 1)) = posM c u (z.take k) + if 0 < dot c (vec u) (vec z[k]) then 1 else 0 := by
  unfold posM
  rw [← List.take_append_getElem h, List.countP_append, List.countP_singleton]
  simp
theorem onM_succ (c : Nat) (u : List Rat) {z : Mat} {k : Nat} (h : k < z.length) : onM c u (z.take (k + 1)) = onM c u (z.take k) ++ if dot c (vec u) (vec z[k]) = 0 then [z[k]] else [] := by
  unfold onM
  rw [← List.take_append_getElem h, List.filter_append]
  by_cases h1 : dot c (vec u) (vec z[k]) = 0
  · simp [h1]
  · simp [h1]
theorem onM_sub (c : Nat) (u : List Rat) (z : Mat) : ∀ r ∈ onM c u z, r ∈ z := fun _ hr => (List.mem_filter.1 hr).1
theorem others_succ {z : Mat} {k : Nat} (h : k < z.length) : others (z.take (k + 1)) = others (z.take k) ++ if zeroB z[k] then [] else [z[k]] := by
  unfold others
  rw [← List.take_append_getElem h, List.filter_append]
  cases h1 : zeroB z[k] <;> simp [h1]
theorem others_sub (z : Mat) : ∀ r ∈ others z, r ∈ z := fun _ hr => (List.mem_filter.1 hr).1
theorem neg_nz {c : Nat} {u : Vec} (h : nz c u) : nz c (fun j => -1 * u j) := by
  obtain ⟨j, hj, hn⟩ := h
  exact ⟨j, hj, by grind⟩
/-- One column. -/
theorem dot_one (u v : Vec) : dot 1 u v = u 0 * v 0 := by
  unfold dot sm sm
  grind
theorem cnt_neg (c : Nat) (u : Vec) (z : List Vec) : cntGe c u z + z.countP (fun v => decide (dot c u v < 0)) = z.length := by
  unfold cntGe
  rw [List.length_eq_countP_add_countP (fun v => decide (0 ≤ dot c u v)) (l := z)]
  congr 1
  refine List.countP_congr fun v _ => ?_
  simp only [decide_eq_true_eq]
  constructor <;> intro h <;> grind
theorem cntGe_neg (c : Nat) (u : List Rat) (z : Mat) : cntGe c (vec u) (vecs z) + negM c u z = z.length := by
  have := cnt_neg c (vec u) (vecs z)
  have e : (vecs z).countP (fun v => decide (dot c (vec u) v < 0)) = negM c u z := by
    unfold negM vecs; rw [List.countP_map]; rfl
  have e2 : (vecs z).length = z.length := by simp [vecs]
  omega
theorem cntGe_pos (c : Nat) (u : List Rat) (z : Mat) : cntGe c (fun j => -1 * vec u j) (vecs z) + posM c u z = z.length := by
  have := cnt_neg c (fun j => -1 * vec u j) (vecs z)
  have e : (vecs z).countP (fun v => decide (dot c (fun j => -1 * vec u j) v < 0)) = posM c u z := by
    unfold posM vecs; rw [List.countP_map]
    refine List.countP_congr fun r _ => ?_
    simp only [Function.comp, decide_eq_true_eq]
    rw [dot_mul]
    constructor <;> intro h <;> grind
  have e2 : (vecs z).length = z.length := by simp [vecs]
  omega
theorem vec_one0 : vec [(1 : Rat)] 0 = 1 := rfl
theorem one_nz : nz 1 (vec [(1 : Rat)]) := ⟨0, by omega, by rw [vec_one0]; decide +kernel⟩
theorem dep_one (z : Mat) : IsDep 1 (vecs z) (z.length - max (posM 1 [1] z) (negM 1 [1] z)) := by
  have h1 := cntGe_neg 1 [1] z
  have h2 := cntGe_pos 1 [1] z
  refine ⟨?_, fun u hu => ?_⟩
  · rcases Nat.le_total (posM 1 [1] z) (negM 1 [1] z) with h | h
    · exact ⟨vec [1], one_nz, by omega⟩
    · exact ⟨_, neg_nz one_nz, by omega⟩
  · obtain ⟨j, hj, hn⟩ := hu
    obtain rfl : j = 0 := by omega
    by_cases hp : 0 < u 0
    · have e : ∀ j, j < 1 → u j = u 0 * vec [1] j := fun j hj => by
        obtain rfl : j = 0 := by omega
        rw [vec_one0]; grind
      obtain ⟨_, _, a3⟩ := vec_congr e (vecs z)
      obtain ⟨_, _, b3⟩ := scale_pos (c := 1) (u := vec [1]) hp (vecs z)
      rw [a3, b3]; omega
    · have e : ∀ j, j < 1 → u j = -u 0 * (-1 * vec [1] j) := fun j hj => by
        obtain rfl : j = 0 := by omega
        rw [vec_one0]; grind
      obtain ⟨_, _, a3⟩ := vec_congr e (vecs z)
      obtain ⟨_, _, b3⟩ := scale_pos (c := 1) (u := fun j => -1 * vec [1] j) (t := -u 0) (by grind) (vecs z)
      rw [a3, b3]; omega
/-- What the program's search keeps, when a direction is no better. -/
theorem bd_triv {c cnt : Nat} {z : Mat} {u : List Rat} (h : cnt ≤ posM c u z) : Bd c z cnt (vec u) := fun l _ => by
  rw [← posM_vecs]; omega
/-- One column: a direction has nothing on its boundary. -/
theorem one_on {z : Mat} {u : List Rat} (hz : ∀ v ∈ vecs z, nz 1 v) (hu : nz 1 (vec u)) : onM 1 u z = [] := by
  unfold onM
  rw [List.filter_eq_nil_iff]
  intro r hr
  obtain ⟨j, hj, hn⟩ := hz (vec r) (List.mem_map.2 ⟨r, hr, rfl⟩)
  obtain ⟨i, hi, hm⟩ := hu
  obtain rfl : j = 0 := by omega
  obtain rfl : i = 0 := by omega
  rw [decide_eq_true_eq, dot_one]
  intro h
  rcases Rat.mul_eq_zero.1 h with h | h
  · exact hm h
  · exact hn h
theorem null_nil {n c : Nat} {z : Mat} (hs : Shp n c z) (h : (redP z c).2.length = c) : nullM z c = [] :=
  List.eq_nil_of_length_eq_zero (by rw [nullM_len hs]; omega)
/-- The rows of a choice, none. -/
theorem rank_one {n : Nat} {z : Mat} (hs : Shp n 1 z) (hz : ∀ v ∈ vecs z, nz 1 v) (hne : z ≠ []) : (redP z 1).2.length = 1 := by
  have h1 := rank_pos hs hz hne
  have h2 := piv_le_cols hs
  omega
theorem one_done {n cnt : Nat} {z us : Mat} (hs : Shp n 1 z) (hz : ∀ v ∈ vecs z, nz 1 v) (hne : z ≠ []) (hS : Sofar 1 z cnt us) (h1 : Bd 1 z cnt (vec (sgL 1 [1]))) (h2 : Bd 1 z cnt (vec (sgL (-1) [1]))) : IsDep 1 (vecs z) cnt ∧ Wit 1 (vecs z) cnt (vecs us) := by
  have hr := rank_one hs hz hne
  have hn := null_nil hs hr
  refine st_done hs hz hne (r := 0) hr hS fun I hI _ _ => ?_
  obtain rfl : I = [] := List.eq_nil_of_length_eq_zero hI
  have := tried_two (c := 1) (z := z) (s := []) (L := [1]) one_nz (by rw [hn]; intro v hv; simp [pickV, vecs] at hv) h1 h2
  simpa using this
/-- All choices of the program have been tried. -/
theorem all_tried {c r cnt : Nat} {z O : List Vec} (n : Nat) (h : ∀ s ∈ combs n r 0, Tried c z O cnt (s.map Int.toNat)) : ∀ I : List Nat, I.length = r → I.Pairwise (· < ·) → (∀ i ∈ I, i < n) → Tried c z O cnt I := fun I h1 h2 h3 => by
  have hm := combs_all n r 0 (I.map fun i : Nat => (i : Int)) (by simpa using h1) (fun x hx => by
    obtain ⟨i, hi, rfl⟩ := List.mem_map.1 hx
    have := h3 i hi; omega) (by
    rw [List.pairwise_map]
    exact h2.imp fun h => by omega)
  have := h _ hm
  have e : (I.map fun i : Nat => (i : Int)).map Int.toNat = I := by
    rw [List.map_map]
    have : (Int.toNat ∘ fun i : Nat => (i : Int)) = id := by funext i; simp
    rw [this, List.map_id]
  rwa [e] at this
end Go.Lin


namespace Go.Rep
open Go.RowKit Go.Lim
/-- A slice's header: its address, length, capacity. -/
abbrev Hdr := Option Addr × Nat × Nat
def HdR : Mem → Value → Hdr → Prop := fun _ u x => u = .slice x.1 x.2.1 x.2.2
theorem HdR.elem : Elem HdR 1 := ⟨fun _ _ _ _ _ h => h, by rintro h u x rfl; rfl, by
  rintro h u x rfl c hc; simp [cellsL, Value.cells] at hc; subst hc; rfl, Nat.one_pos⟩
theorem HdR.one : OneCell HdR := by rintro h u x rfl; rfl
theorem HdR.pure : ∀ h h' u x, HdR h u x → HdR h' u x := fun _ _ _ _ h => h
/-- What a step that turns other blocks leaves of a list of plain values. -/
theorem OL.frame {α : Type} {R : Mem → Value → α → Prop} {sz : Nat} {X : Nat → Bool} {base : Nat} {e : TypeId} {w w' : World} {ao : Option Addr} {cap : Nat} {l : List α} (hR0 : ∀ h h' u x, R h u x → R h' u x) {Y Z : Nat → Bool} (h : OL R sz X base e w ao cap l) (hE : ExtX Y w w') (hY : ∀ k, ob ao k = true → Y k = false) (hZ : ∀ k, ob ao k = true → Z k = false) : OL R sz Z base e w' ao cap l := by
  have hb := fun k (hk : ob ao k = true) => h.block hk
  obtain ⟨hx, us, h1, h2, h22, h3, h5⟩ := h
  refine ⟨hZ, us, h1, h2, h22, ?_, fun i hi hi' => hR0 _ _ _ _ (h5 i hi hi')⟩
  refine ⟨h3.1, ?_⟩
  rcases h3.2 with h4 | ⟨g, c, cur, hv, h6, h7, h8⟩
  · exact .inl h4
  · refine .inr ⟨g, c, cur, hv, h6, ?_, h8⟩
    simp at hv
    obtain ⟨rfl, rfl⟩ := hv
    have hk : ob (some ⟨g, 0, none⟩) g = true := by simp [ob]
    rw [hE.block g (hb g hk).2 (hY g hk), h7]
/-- A mask without the blocks of one slice. -/
def cut (Z : Nat → Bool) (ao : Option Addr) : Nat → Bool := fun k => Z k && !ob ao k
theorem un_cut {Z : Nat → Bool} {ao : Option Addr} (h : ∀ k, ob ao k = true → Z k = true) : un (cut Z ao) ao = Z := by
  funext k
  have := h k
  unfold un cut
  cases hb : ob ao k <;> cases hz : Z k <;> simp_all
theorem cut_of {Z : Nat → Bool} {ao : Option Addr} {k : Nat} (h : cut Z ao k = true) : Z k = true ∧ ob ao k = false := by simpa [cut] using h
theorem cut_mk {Z : Nat → Bool} {ao : Option Addr} {k : Nat} (h : Z k = true) (h2 : ob ao k = false) : cut Z ao k = true := by simp [cut, h, h2]
/-- The blocks of all rows. -/
def obs (hs : List Hdr) : Nat → Bool := fun k => hs.any fun h => ob h.1 k
theorem obs_get {hs : List Hdr} {i : Nat} (hi : i < hs.length) {k : Nat} (h : ob hs[i].1 k = true) : obs hs k = true := by
  unfold obs; rw [List.any_eq_true]; exact ⟨_, List.getElem_mem hi, h⟩
theorem obs_of {hs : List Hdr} {k : Nat} (h : obs hs k = true) : ∃ i, ∃ hi : i < hs.length, ob hs[i].1 k = true := by
  unfold obs at h; rw [List.any_eq_true] at h
  obtain ⟨x, hx, h2⟩ := h
  obtain ⟨i, hi, rfl⟩ := List.getElem_of_mem hx
  exact ⟨i, hi, h2⟩
/-- All blocks of a matrix, and those of X. -/
def mz (X : Nat → Bool) (ao : Option Addr) (hs : List Hdr) : Nat → Bool := fun k => X k || ob ao k || obs hs k
/-- The blocks of a matrix. -/
def mb (ao : Option Addr) (hs : List Hdr) : Nat → Bool := fun k => ob ao k || obs hs k
theorem mz_iff {X : Nat → Bool} {ao : Option Addr} {hs : List Hdr} {k : Nat} : mz X ao hs k = true ↔ X k = true ∨ ob ao k = true ∨ obs hs k = true := by simp [mz, or_assoc]
theorem mb_iff {ao : Option Addr} {hs : List Hdr} {k : Nat} : mb ao hs k = true ↔ ob ao k = true ∨ obs hs k = true := by simp [mb]

/-- The matrix m lies in slices that the call itself made: the outer one holds the rows' headers hs; the numbers are read outside of all of them and of X. -/
structure MO (X : Nat → Bool) (base : Nat) (e1 e2 : TypeId) (w : World) (ao : Option Addr) (cap : Nat) (hs : List Hdr) (m : List (List Rat)) : Prop where
  outer : OL HdR 1 X base e1 w ao cap hs
  len : hs.length = m.length
  rlen : ∀ i (hi : i < hs.length) (hi' : i < m.length), hs[i].2.1 = m[i].length
  row : ∀ i (hi : i < hs.length) (hi' : i < m.length), OL QC 3 (cut (mz X ao hs) hs[i].1) base e2 w hs[i].1 hs[i].2.2 m[i]
  sep : ∀ i (hi : i < hs.length) k, ob hs[i].1 k = true → X k = false ∧ ob ao k = false
  dis : ∀ i j (hi : i < hs.length) (hj : j < hs.length), i ≠ j → ∀ k, ob hs[i].1 k = true → ob hs[j].1 k = false

section
variable {X : Nat → Bool} {base : Nat} {e1 e2 : TypeId} {w w' : World} {ao : Option Addr} {cap : Nat} {hs : List Hdr} {m : List (List Rat)}
theorem MO.out_sep (h : MO X base e1 e2 w ao cap hs m) {k : Nat} (hk : ob ao k = true) : X k = false ∧ obs hs k = false := by
  refine ⟨h.outer.1 k hk, ?_⟩
  cases ho : obs hs k
  · rfl
  · obtain ⟨i, hi, h2⟩ := obs_of ho
    have := (h.sep i hi k h2).2
    rw [hk] at this; simp at this
theorem MO.obs_sep (h : MO X base e1 e2 w ao cap hs m) {k : Nat} (hk : obs hs k = true) : X k = false ∧ ob ao k = false := by
  obtain ⟨i, hi, h2⟩ := obs_of hk
  exact h.sep i hi k h2
theorem MO.mb_X (h : MO X base e1 e2 w ao cap hs m) {k : Nat} (hk : mb ao hs k = true) : X k = false := by
  rcases mb_iff.1 hk with a | a
  · exact (h.out_sep a).1
  · exact (h.obs_sep a).1
theorem MO.mb_block (h : MO X base e1 e2 w ao cap hs m) {k : Nat} (hk : mb ao hs k = true) : base ≤ k ∧ k < w.heap.size := by
  rcases mb_iff.1 hk with a | a
  · exact h.outer.block a
  · obtain ⟨i, hi, h2⟩ := obs_of a
    exact (h.row i hi (by have := h.len; omega)).block h2
theorem MO.mz_sub (_h : MO X base e1 e2 w ao cap hs m) {i : Nat} (hi : i < hs.length) (k : Nat) (hk : ob hs[i].1 k = true) : mz X ao hs k = true := mz_iff.2 (.inr (.inr (obs_get hi hk)))
theorem MO.hz (h : MO X base e1 e2 w ao cap hs m) (hX : HX X w) : HX (mz X ao hs) w := fun k hk => by
  rcases mz_iff.1 hk with a | a
  · exact hX k a
  · exact (h.mb_block (mb_iff.2 a)).2
/-- A step that turns only what X hides, or new blocks. -/
theorem MO.ext (h : MO X base e1 e2 w ao cap hs m) {Y X' : Nat → Bool} (hE : ExtX Y w w') (hY : ∀ k, k < w.heap.size → Y k = true → X k = true) (hZ : ∀ k, k < w.heap.size → X' k = true → X k = true) : MO X' base e1 e2 w' ao cap hs m := by
  have hX' : ∀ k, mb ao hs k = true → X' k = false := fun k hk => by
    cases hh : X' k
    · rfl
    · have := hZ k (h.mb_block hk).2 hh; rw [h.mb_X hk] at this; simp at this
  have hYm : ∀ k, mb ao hs k = true → Y k = false := fun k hk => by
    cases hh : Y k
    · rfl
    · have := hY k (h.mb_block hk).2 hh; rw [h.mb_X hk] at this; simp at this
  refine ⟨h.outer.ext HdR.elem hE hY hZ, h.len, h.rlen, fun i hi hi' => ?_, fun i hi k hk => ⟨hX' k (mb_iff.2 (.inr (obs_get hi hk))), (h.sep i hi k hk).2⟩, h.dis⟩
  refine (h.row i hi hi').ext QC.elem hE (fun k hk hy => cut_mk (mz_iff.2 (.inl (hY k hk hy))) ?_) (fun k hk hy => ?_)
  · cases hb : ob hs[i].1 k
    · rfl
    · have := hYm k (mb_iff.2 (.inr (obs_get hi hb))); rw [hy] at this; simp at this
  · obtain ⟨h1, h2⟩ := cut_of hy
    refine cut_mk (mz_iff.2 ?_) h2
    rcases mz_iff.1 h1 with a | a
    · exact .inl (hZ k hk a)
    · exact .inr a
theorem MO.ext0 (h : MO X base e1 e2 w ao cap hs m) (hE : Ext w w') : MO X base e1 e2 w' ao cap hs m :=
  h.ext hE (fun k _ hk => by simp [noY] at hk) (fun _ _ h => h)
/-- One row was written. -/
theorem MO.upd (h : MO X base e1 e2 w ao cap hs m) {i : Nat} (hi : i < hs.length) {l : List Rat} (hE : ExtX (ob hs[i].1) w w') (hl : ∀ hi' : i < m.length, l.length = m[i].length) (hr : OL QC 3 (cut (mz X ao hs) hs[i].1) base e2 w' hs[i].1 hs[i].2.2 l) : MO X base e1 e2 w' ao cap hs (m.set i l) := by
  refine ⟨h.outer.frame HdR.pure hE (fun k hk => ?_) h.outer.1, by rw [List.length_set]; exact h.len, fun j hj hj' => ?_, fun j hj hj' => ?_, h.sep, h.dis⟩
  · cases hb : ob hs[i].1 k
    · rfl
    · have := (h.sep i hi k hb).2; rw [hk] at this; simp at this
  · rw [List.getElem_set]
    split
    · subst_vars; rw [hl (by have := h.len; omega)]; exact h.rlen _ hj (by have := h.len; omega)
    · exact h.rlen j hj (by simpa using hj')
  · rw [List.getElem_set]
    split
    · subst_vars; exact hr
    · rename_i e
      exact (h.row j hj (by simpa using hj')).ext QC.elem hE (fun k _ hk => cut_mk (h.mz_sub hi k hk) (h.dis i j hi hj e k hk)) (fun _ _ hk => hk)
/-- The rows were exchanged. -/
theorem MO.perm (h : MO X base e1 e2 w ao cap hs m) {hs' : List Hdr} {m' : List (List Rat)} (f : Nat → Nat) (hf : ∀ i, i < hs.length → f i < hs.length) (hinj : ∀ i j, i < hs.length → j < hs.length → f i = f j → i = j) (hsurj : ∀ i, i < hs.length → ∃ j, j < hs.length ∧ f j = i)
    (hl : hs'.length = hs.length) (hlm : m'.length = m.length) (hh : ∀ i (hi : i < hs'.length) (hi' : f i < hs.length), hs'[i] = hs[f i]) (hm : ∀ i (hi : i < m'.length) (hi' : f i < m.length), m'[i] = m[f i])
    (hE : ExtX (ob ao) w w') (ho : OL HdR 1 X base e1 w' ao cap hs') : MO X base e1 e2 w' ao cap hs' m' := by
  have hlen := h.len
  have hobs : ∀ k, obs hs' k = true ↔ obs hs k = true := fun k => by
    constructor
    · intro hk
      obtain ⟨i, hi, h2⟩ := obs_of hk
      have hfi := hf i (by omega)
      rw [hh i hi hfi] at h2
      exact obs_get hfi h2
    · intro hk
      obtain ⟨i, hi, h2⟩ := obs_of hk
      obtain ⟨j, hj, rfl⟩ := hsurj i hi
      refine obs_get (i := j) (by omega) ?_
      rw [hh j (by omega) hi]; exact h2
  have hz : mz X ao hs' = mz X ao hs := by
    funext k
    rw [Bool.eq_iff_iff, mz_iff, mz_iff, hobs]
  refine ⟨ho, by omega, fun i hi hi' => ?_, fun i hi hi' => ?_, fun i hi k hk => ?_, fun i j hi hj hij k hk => ?_⟩
  · have hfi := hf i (by omega)
    rw [hh i hi hfi, hm i hi' (by omega)]; exact h.rlen _ hfi (by omega)
  · have hfi := hf i (by omega)
    rw [hz, hh i hi hfi, hm i hi' (by omega)]
    exact (h.row _ hfi (by omega)).ext QC.elem hE (fun k _ hk => cut_mk (mz_iff.2 (.inr (.inl hk))) (by
      cases hb : ob hs[f i].1 k
      · rfl
      · have := (h.sep _ hfi k hb).2; rw [hk] at this; simp at this)) (fun _ _ hk => hk)
  · have hfi := hf i (by omega)
    rw [hh i hi hfi] at hk; exact h.sep _ hfi k hk
  · have hfi := hf i (by omega)
    have hfj := hf j (by omega)
    rw [hh i hi hfi] at hk
    rw [hh j hj hfj]
    exact h.dis _ _ hfi hfj (fun e => hij (hinj i j (by omega) (by omega) e)) k hk
/-- A row is laid where there was none. -/
theorem MO.put (h : MO X base e1 e2 w ao cap hs m) {i : Nat} (hi : i < hs.length) (hn : hs[i].1 = none) {a : Option Addr} {c : Nat} {l : List Rat} {w1 : World} 
    (hE1 : Ext w w1) (hnew : ∀ k, ob a k = true → w.heap.size ≤ k) (hr : OL QC 3 (mz X ao hs) base e2 w1 a c l) (hX : HX X w)
    (hE : ExtX (ob ao) w1 w') (ho : OL HdR 1 X base e1 w' ao cap (hs.set i (a, l.length, c))) : MO X base e1 e2 w' ao cap (hs.set i (a, l.length, c)) (m.set i l) := by
  have hlen := h.len
  have hE' : ExtX (ob ao) w w' := (ExtX.of hE1).trans hE
  have hobs : ∀ k, obs (hs.set i (a, l.length, c)) k = true ↔ obs hs k = true ∨ ob a k = true := fun k => by
    constructor
    · intro hk
      obtain ⟨j, hj, h2⟩ := obs_of hk
      rw [List.getElem_set] at h2
      split at h2
      · exact .inr h2
      · exact .inl (obs_get (by simpa using hj) h2)
    · rintro (hk | hk)
      · obtain ⟨j, hj, h2⟩ := obs_of hk
        refine obs_get (i := j) (by simpa using hj) ?_
        rw [List.getElem_set]
        split
        · subst_vars; rw [hn] at h2; simp [ob] at h2
        · exact h2
      · refine obs_get (i := i) (by simpa using hi) ?_
        rw [List.getElem_set]; simpa using hk
  have hmz : ∀ k, mz X ao (hs.set i (a, l.length, c)) k = true ↔ mz X ao hs k = true ∨ ob a k = true := fun k => by
    rw [mz_iff, mz_iff, hobs]
    constructor
    · rintro (h | h | h | h)
      · exact .inl (.inl h)
      · exact .inl (.inr (.inl h))
      · exact .inl (.inr (.inr h))
      · exact .inr h
    · rintro ((h | h | h) | h)
      · exact .inl h
      · exact .inr (.inl h)
      · exact .inr (.inr (.inl h))
      · exact .inr (.inr (.inr h))
  have hold : ∀ k, mb ao hs k = true → ob a k = false := fun k hk => by
    cases hb : ob a k
    · rfl
    · have := hnew k hb; have := (h.mb_block hk).2; omega
  have hobao : ∀ k, ob a k = true → ob ao k = false := fun k hk => by
    cases hb : ob ao k
    · rfl
    · have := hold k (mb_iff.2 (.inl hb)); rw [hk] at this; simp at this
  refine ⟨ho, by simp [hlen], fun j hj hj' => ?_, fun j hj hj' => ?_, fun j hj k hk => ?_, fun j q hj hq hjq k hk => ?_⟩
  · rw [List.getElem_set, List.getElem_set]
    split
    · rfl
    · exact h.rlen j (by simpa using hj) (by simpa using hj')
  · have hj0 : j < hs.length := by simpa using hj
    have hj1 : j < m.length := by simpa using hj'
    by_cases e : i = j
    · subst e
      simp only [List.getElem_set_self]
      refine hr.ext QC.elem hE (fun k _ hk => mz_iff.2 (.inr (.inl hk))) (fun k hk hz => ?_)
      obtain ⟨h1, h2⟩ := cut_of hz
      rcases (hmz k).1 h1 with h3 | h3
      · exact h3
      · rw [h2] at h3; simp at h3
    · simp only [List.getElem_set_ne e]
      refine (h.row j hj0 hj1).ext QC.elem hE' (fun k _ hk => cut_mk (mz_iff.2 (.inr (.inl hk))) ?_) (fun k hk hz => ?_)
      · cases hb : ob hs[j].1 k
        · rfl
        · have := (h.sep j hj0 k hb).2; rw [hk] at this; simp at this
      · obtain ⟨h1, h2⟩ := cut_of hz
        rcases (hmz k).1 h1 with h3 | h3
        · exact cut_mk h3 h2
        · have := hnew k h3; omega
  · rw [List.getElem_set] at hk
    split at hk
    · exact ⟨by
        cases hb : X k
        · rfl
        · have := hX k hb; have := hnew k hk; omega, hobao k hk⟩
    · exact h.sep j (by simpa using hj) k hk
  · have hj0 : j < hs.length := by simpa using hj
    have hq0 : q < hs.length := by simpa using hq
    rw [List.getElem_set] at hk ⊢
    split at hk
    · rw [if_neg (by omega)]
      cases hb : ob hs[q].1 k
      · rfl
      · have := hold k (mb_iff.2 (.inr (obs_get hq0 hb))); dsimp only at hk; rw [hk] at this; simp at this
    · split
      · exact hold k (mb_iff.2 (.inr (obs_get hj0 hk)))
      · exact h.dis j q hj0 hq0 hjq k hk
/-- The header of a row. -/
theorem MO.hdr (h : MO X base e1 e2 w ao cap hs m) (i : Nat) (hi : i < hs.length) : w.cell? (adr ao i) = some (.slice hs[i].1 hs[i].2.1 hs[i].2.2) ∧ w.frozen? (adr ao i) = false := by
  obtain ⟨u, h1, h2, rfl⟩ := h.outer.cell HdR.one i hi
  exact ⟨h1, h2⟩
/-- A row, read. -/
theorem MO.rowS (h : MO X base e1 e2 w ao cap hs m) {i : Nat} (hi : i < hs.length) (hi' : i < m.length) : Sl QC 3 (_root_.Go.Rep.mk (cut (mz X ao hs) hs[i].1) w) hs[i].1 m[i] := (h.row i hi hi').sl QC.elem
theorem MO.rowX (h : MO X base e1 e2 w ao cap hs m) {i : Nat} (hi : i < hs.length) (hi' : i < m.length) : Sl QC 3 (_root_.Go.Rep.mk X w) hs[i].1 m[i] := (h.rowS hi hi').mono QC.mono (mk_sub fun k _ hk => cut_mk (mz_iff.2 (.inl hk)) (by
  cases hb : ob hs[i].1 k
  · rfl
  · have := (h.sep i hi k hb).1; rw [hk] at this; simp at this))
theorem MO.capLen (h : MO X base e1 e2 w ao cap hs m) : m.length ≤ cap := by rw [← h.len]; exact h.outer.lenCap
/-- The matrix, read. -/
theorem MO.mc (h : MO X base e1 e2 w ao cap hs m) : MC (_root_.Go.Rep.mk X w) (.slice ao m.length cap) m := by
  have hl := h.len
  refine ⟨ao, cap, rfl, h.capLen, fun hp => ?_, fun i hi => ?_⟩
  · have := h.outer.hd; rw [hl] at this; exact this hp
  · obtain ⟨h1, _⟩ := h.hdr i (by omega)
    have hr := h.rowX (i := i) (by omega) hi
    refine ⟨.slice hs[i].1 hs[i].2.1 hs[i].2.2, rfl, fun j hj => ?_, ?_⟩
    · have hj0 : j = 0 := by simp [Value.cells] at hj; omega
      subst hj0
      unfold _root_.Go.Rep.mk
      have hX : X (adr ao (i * 1 + 0)).block = false := by
        obtain ⟨b, off, rfl⟩ := h.outer.hd (by omega)
        exact h.outer.1 _ (by simp [ob, adr])
      rw [hX]
      simpa [Value.cells] using h1
    · rw [h.rlen i (by omega) hi]
      exact ⟨_, _, rfl, by have := (h.row i (by omega) hi).lenCap; exact this, hr⟩
/-- A matrix without rows yet. -/
theorem MO.start {n : Nat} (ho : OL HdR 1 X base e1 w ao cap (List.replicate n (none, 0, 0))) (e2 : TypeId) : MO X base e1 e2 w ao cap (List.replicate n (none, 0, 0)) (List.replicate n []) := by
  refine ⟨ho, by simp, fun i hi hi' => by simp, fun i hi hi' => ?_, fun i hi k hk => ?_, fun i j hi hj hij k hk => ?_⟩
  · simp only [List.getElem_replicate]; exact OL.nil _ _ _ _ _ _
  · simp [ob] at hk
  · simp [ob] at hk
end
end Go.Rep


namespace Go.Rep
open Go.RowKit Go.Lim
section
variable {P : Program} {α : Type} {R : Mem → Value → α → Prop} {X : Nat → Bool} {base : Nat} {e : TypeId} {w : World} {ao : Option Addr} {cap : Nat} {l : List α}
/-- The three cells of an element of an owned list. -/
theorem OL.cell3 (h : OL R 3 X base e w ao cap l) (i : Nat) (hi : i < l.length) {g o : Nat} (hg : adr ao (i * 3) = ⟨g, o, none⟩) :
    ∃ u v0 v1 v2, cellsL u = [v0, v1, v2] ∧ (w.cell? ⟨g, o, none⟩ = some v0 ∧ w.frozen? ⟨g, o, none⟩ = false) ∧ (w.cell? ⟨g, o + 1, none⟩ = some v1 ∧ w.frozen? ⟨g, o + 1, none⟩ = false) ∧ (w.cell? ⟨g, o + 2, none⟩ = some v2 ∧ w.frozen? ⟨g, o + 2, none⟩ = false) ∧ R (mk (un X ao) w) u l[i] := by
  obtain ⟨us, h1, h2, _, h3, h5⟩ := h.cells
  have hi' : i < us.length := by omega
  have hsz : us[i].cells.size = 3 := h2 _ (List.getElem_mem _)
  have hlen : (cellsL us[i]).length = 3 := by simp [cellsL, hsz]
  obtain ⟨v0, v1, v2, hv⟩ : ∃ v0 v1 v2, cellsL us[i] = [v0, v1, v2] := by
    match hc : cellsL us[i], hlen with
    | [a, b, c], _ => exact ⟨a, b, c, rfl⟩
  have ha : ∀ j, adr ao (i * 3 + j) = ⟨g, o + j, none⟩ := fun j => by rw [← adr_add, hg, Addr.add_lit]
  have key : ∀ j v, j < 3 → (cellsL us[i])[j]? = some v → w.cell? ⟨g, o + j, none⟩ = some v ∧ w.frozen? ⟨g, o + j, none⟩ = false := fun j v hj hjv => by
    have hget := flat_get us i j hi' h2 hj
    rw [hjv] at hget
    have := h3 _ _ hget
    rwa [ha] at this
  exact ⟨us[i], v0, v1, v2, hv, key 0 v0 (by omega) (by rw [hv]; rfl), key 1 v1 (by omega) (by rw [hv]; rfl), key 2 v2 (by omega) (by rw [hv]; rfl), h5 i hi' hi⟩
theorem run_store1 {P : Program} {w : World} {a : Addr} {u v : Value} (h1 : v.oneCell' = true) (hc : w.cell? a = some u) (hf : w.frozen? a = false) : (store a v).run P w = .ok () (w.setCell a v) := by
  rw [run_store P w a v _ h1, hc]; simp [hf]
/-- A store of a three-cell element, asl the walk writes it. -/
theorem OL.set3 {t : TypeId} (hT : TyI P t 3) (hR : Elem R 3) (h : OL R 3 X base e w ao cap l) (i : Nat) (hi : i < l.length) {g o : Nat} (hg : adr ao (i * 3) = ⟨g, o, none⟩) {v0 v1 v2 : Value} {x : α} (hu : R (mk (un X ao) w) (.agg #[v0, v1, v2]) x) :
    OL R 3 X base e (((w.setCell ⟨g, o, none⟩ v0).setCell ⟨g, o + 1, none⟩ v1).setCell ⟨g, o + 2, none⟩ v2) ao cap (l.set i x) ∧ ExtX (ob ao) w (((w.setCell ⟨g, o, none⟩ v0).setCell ⟨g, o + 1, none⟩ v1).setCell ⟨g, o + 2, none⟩ v2) := by
  obtain ⟨ti, ht, hts⟩ := hT
  obtain ⟨_, c0, c1, c2, _, ⟨h0, f0⟩, ⟨h1, f1⟩, ⟨h2, f2⟩, _⟩ := h.cell3 i hi hg
  obtain ⟨w', hr, h3, h4⟩ := h.run_store (P := P) ht hts hR i hi _ x hu
  have hone := hR.one _ _ _ hu
  rw [hg] at hr
  have o0 : v0.oneCell' = true := hone v0 (by simp [cellsL, Value.cells])
  have o1 : v1.oneCell' = true := hone v1 (by simp [cellsL, Value.cells])
  have o2 : v2.oneCell' = true := hone v2 (by simp [cellsL, Value.cells])
  have a1 : (w.setCell ⟨g, o, none⟩ v0).cell? ⟨g, o + 1, none⟩ = some c1 := by rw [World.cell?_setCell_other (h := by simp)]; exact h1
  have a2 : ((w.setCell ⟨g, o, none⟩ v0).setCell ⟨g, o + 1, none⟩ v1).cell? ⟨g, o + 2, none⟩ = some c2 := by rw [World.cell?_setCell_other (h := by simp), World.cell?_setCell_other (h := by simp)]; exact h2
  have b1 : (w.setCell ⟨g, o, none⟩ v0).frozen? ⟨g, o + 1, none⟩ = false := by rw [World.frozen?_setCell]; exact f1
  have b2 : ((w.setCell ⟨g, o, none⟩ v0).setCell ⟨g, o + 1, none⟩ v1).frozen? ⟨g, o + 2, none⟩ = false := by rw [World.frozen?_setCell, World.frozen?_setCell]; exact f2
  have hw : w' = ((w.setCell ⟨g, o, none⟩ v0).setCell ⟨g, o + 1, none⟩ v1).setCell ⟨g, o + 2, none⟩ v2 := by
    have s0 := run_store1 (P := P) o0 h0 f0
    have s1 := run_store1 (P := P) o1 a1 b1
    have s2 := run_store1 (P := P) o2 a2 b2
    simp [storeVar, sizeOf, typeInfo, ht, hts, Value.cells, storeCells, Addr.add_lit, s0, s1, s2] at hr
    exact hr.symm
  subst hw
  exact ⟨h3, h4⟩
end
section
variable {X : Nat → Bool} {base : Nat} {e1 e2 : TypeId} {w w' : World} {ao : Option Addr} {cap : Nat} {hs : List Hdr} {m : List (List Rat)}
/-- A reading from before the matrix was made. -/
theorem MO.old {α : Type} {R : Mem → Value → α → Prop} (hR : Mono R) {u : Value} {x : α} {X0 : Nat → Bool} {w0 : World} (h : MO X base e1 e2 w ao cap hs m) (hu : R (_root_.Go.Rep.mk X0 w0) u x) (hE : Ext w0 w) (hb : w0.heap.size ≤ base) (hX : ∀ k, k < w0.heap.size → X k = true → X0 k = true) : R (_root_.Go.Rep.mk (mz X ao hs) w) u x :=
  hR _ _ _ _ (mk_over hE (fun k _ hk => by simp [noY] at hk) fun k hk hz => by
    rcases mz_iff.1 hz with a | a
    · exact hX k hk a
    · have := (h.mb_block (mb_iff.2 a)).1; omega) hu
/-- What the whole mask leaves is read outside of X, too. -/
theorem MO.less {α : Type} {R : Mem → Value → α → Prop} (hR : Mono R) {u : Value} {x : α} (_h : MO X base e1 e2 w ao cap hs m) (hu : R (_root_.Go.Rep.mk (mz X ao hs) w) u x) : R (_root_.Go.Rep.mk X w) u x :=
  hR _ _ _ _ (mk_sub fun _ _ hk => mz_iff.2 (.inl hk)) hu
/-- From a world in which the matrix was not there. -/
theorem MO.ext_from {w0 : World} (h : MO X base e1 e2 w ao cap hs m) (hE : Ext w0 w) (hb : w0.heap.size ≤ base) (hE2 : ExtX (mb ao hs) w w') : Ext w0 w' :=
  hE.then_ hE2 fun i hi _ => by
    cases hk : mb ao hs i
    · rfl
    · have := (h.mb_block hk).1; omega
theorem ob_mb {ao : Option Addr} {hs : List Hdr} {k : Nat} (h : mb ao hs k = false) : ob ao k = false ∧ ∀ i (hi : i < hs.length), ob hs[i].1 k = false := by
  refine ⟨?_, fun i hi => ?_⟩
  · cases hb : ob ao k
    · rfl
    · rw [mb_iff.2 (.inl hb)] at h; simp at h
  · cases hb : ob hs[i].1 k
    · rfl
    · rw [mb_iff.2 (.inr (obs_get hi hb))] at h; simp at h
theorem ExtX.row {i : Nat} (hi : i < hs.length) (h : ExtX (ob hs[i].1) w w') : ExtX (mb ao hs) w w' := h.weaken fun _ _ hk => (ob_mb hk).2 i hi
theorem ExtX.outer (h : ExtX (ob ao) w w') : ExtX (mb ao hs) w w' := h.weaken fun _ _ hk => (ob_mb hk).1
/-- The rows' headers hidden alike. -/
theorem obs_congr {hs hs' : List Hdr} (h : ∀ k, obs hs k = obs hs' k) : mb ao hs = mb ao hs' ∧ mz X ao hs = mz X ao hs' := by
  constructor <;> (funext k; simp [mb, mz, h])
/-- A matrix that a call has made comes back. -/
def MOut (X : Nat → Bool) (e1 e2 : TypeId) (w : World) (m : List (List Rat)) (e : Ending) (w' : World) : Prop := Ext w w' ∧ ∃ ao cap hs, e = .returned (.slice ao m.length cap) ∧ MO X w.heap.size e1 e2 w' ao cap hs m
end
end Go.Rep


namespace Go.Proofs.YthipmbmjodhiiaaGreat
open Go.RowKit Go.Rep Go.Lim Go.Lin

theorem part_set {α : Type} (r i : Nat) (z : α) (x : α) (hi : i < r) : ((List.range r).map fun q => if q < i then z else x).set i z = (List.range r).map fun q => if q < i + 1 then z else x := by
  refine List.ext_getElem (by simp) fun q h1 h2 => ?_
  simp at h1
  rw [List.getElem_set]
  simp only [List.getElem_map, List.getElem_range]
  split
  · subst_vars; simp
  · by_cases a : q < i
    · simp [a, show q < i + 1 by omega]
    · simp [a, show ¬ q < i + 1 by omega]
theorem part_zero {α : Type} (r : Nat) (z x : α) : ((List.range r).map fun q => if q < 0 then z else x) = List.replicate r x := by
  refine List.ext_getElem (by simp) fun q h1 h2 => by simp
theorem part_full {α : Type} (r : Nat) (z x : α) : ((List.range r).map fun q => if q < r then z else x) = List.replicate r z := by
  refine List.ext_getElem (by simp) fun q h1 h2 => ?_
  simp at h1
  simp [h1]

set_option maxRecDepth 100000 in
theorem zero_any (X : Nat → Bool) (w : World) (r c : Nat) (hX : HX X w) (hr : r ≤ 1000) (hc : c ≤ 1000) : Calls Tryz.prog 140 #[.int .i64 (r : Int), .int .i64 (c : Int)] w (MOut X 27 34 w (List.replicate r (List.replicate c 0))) := by
  go_enter Tryz.func140, Tryz.ntmps140
  go_wp2_with ((with_reducible show wpList _ _ _ (⟨_, .makeSlice _ _ _, _, _, _, _⟩ :: _) _ _); refine st_make (R := HdR) slRats HdR.elem (none, 0, 0) (fun _ => rfl) X hX w.heap.size (Nat.le_refl _) r rfl rfl rfl (by omega) (by omega) ?_; intro ao w1 hO1 hE1)
  have hM1 := MO.start hO1 34
  have hh := hO1.hd
  simp only [List.length_replicate] at hh
  have h0 : List.replicate r ([] : List Rat) = (List.range r).map fun q => if q < 0 then List.replicate c 0 else [] := (part_zero r _ _).symm
  rw [h0] at hM1
  clear hO1 h0
  go_loopw [11] (fun k wr => ∃ (i : Nat) (hs : List Hdr), k = .int .i64 i ∧ i ≤ r ∧ Hid (∀ q (hq : q < hs.length), i ≤ q → hs[q].1 = none) ∧ MO X w.heap.size 27 34 wr ao r hs ((List.range r).map fun q => if q < i then List.replicate c 0 else []) ∧ Ext w wr) (fun k _ => r - (intOf k).toNat)
  case atStart => exact ⟨0, _, rfl, Nat.zero_le _, hid (fun q hq _ => by simp), hM1, hE1⟩
  case round =>
    obtain ⟨i, hs, rfl, hi, hnil, hM, hE⟩ := hrel
    have hXr : HX X wr := hX.ext hE
    have hXz := hM.hz hXr
    have hlen := hid hM.len
    have hml : Hid (((List.range r).map fun q => if q < i then List.replicate c (0 : Rat) else []).length = r) := hid (by simp)
    by_cases hlt : i < r
    · have hih : i < hs.length := by rw [hlen.out, hml.out]; exact hlt
      have hps := hid (part_set r i (List.replicate c (0 : Rat)) [] hlt)
      have hn := hnil.out i hih (Nat.le_refl _)
      go_wp2_with (first | (with_reducible refine up_ix1 slRats (by omega) (by assumption) ?_) | ((with_reducible show wpList _ _ _ (⟨_, .makeSlice _ _ _, _, _, _, _⟩ :: _) _ _); refine st_make (R := QC) slRat QC.elem (0 : Rat) (fun _ => QC.zero _) (mz X ao hs) hXz wr.heap.size (Nat.le_refl _) c rfl rfl rfl (by omega) (by omega) ?_; intro a1 w2 hO2 hE2) | ((with_reducible show wpList _ _ _ (⟨_, .store _ _ _, _, _, _, _⟩ :: _) _ _); refine st_store tyRats HdR.elem i rfl (by simp) (hM.outer.ext0 HdR.elem hE2) hih (.slice a1 c c) (a1, c, c) rfl rfl ?_; intro w3 hO3 hE3))
      have hM3 := hM.put (l := List.replicate c 0) hih hn hE2 (fun k hk => (hO2.block hk).1) (hO2.base_le hE.size) hXr hE3 (by simpa using hO3)
      rw [hps.out] at hM3
      have hE4 : Ext w w3 := (hE.trans hE2).then_ hE3 fun k hk _ => by
        cases hb : ob ao k
        · rfl
        · have := (hM.outer.block hb).1; omega
      have hnil2 : Hid (∀ q (hq : q < (hs.set i (a1, (List.replicate c (0 : Rat)).length, c)).length), i + 1 ≤ q → (hs.set i (a1, (List.replicate c (0 : Rat)).length, c))[q].1 = none) := hid fun q hq hiq => by
        rw [List.getElem_set_ne (by omega)]; exact hnil.out q (by simpa using hq) (by omega)
      go_roundw
      case rel => exact ⟨i + 1, _, by go_num, by omega, hnil2, hM3, hE4⟩
      case measure => simp [intOf]; omega
    · have hir : i = r := by omega
      subst hir
      rw [part_full] at hM
      go_wp2_with fail
      go_ret
      exact ⟨hE, ao, i, hs, by simp, hM⟩
end Go.Proofs.YthipmbmjodhiiaaGreat


namespace Go.Lin
/-- The first i of a, the others of b. -/
def mix {α : Type} (a b : List α) (i : Nat) : List α := a.take i ++ b.drop i
theorem mix_len {α : Type} {a b : List α} (h : a.length = b.length) (i : Nat) : (mix a b i).length = a.length := by simp [mix]; omega
theorem mix_zero {α : Type} (a b : List α) : mix a b 0 = b := by simp [mix]
theorem mix_full {α : Type} {a b : List α} {i : Nat} (h1 : a.length ≤ i) (h2 : b.length ≤ i) : mix a b i = a := by simp [mix, List.take_of_length_le h1, List.drop_of_length_le h2]
theorem mix_getElem {α : Type} {a b : List α} (h : a.length = b.length) (i q : Nat) (hq : q < (mix a b i).length) : (mix a b i)[q] = if q < i then a[q]'(by rw [mix_len h] at hq; exact hq) else b[q]'(by rw [mix_len h] at hq; omega) := by
  have hq' := hq
  rw [mix_len h] at hq'
  have hq2 : q < (a.take i ++ b.drop i).length := hq
  show (a.take i ++ b.drop i)[q]'hq2 = _
  rw [List.getElem_append]
  by_cases a1 : q < i
  · rw [dif_pos (by simp; omega), if_pos a1, List.getElem_take]
  · rw [dif_neg (by simp; omega), if_neg a1, List.getElem_drop]
    congr 1
    simp; omega
theorem mix_set {α : Type} {a b : List α} (h : a.length = b.length) {i : Nat} (hi : i < a.length) : (mix a b i).set i a[i] = mix a b (i + 1) := by
  refine List.ext_getElem (by simp [mix_len h]) fun q h1 h2 => ?_
  rw [List.getElem_set]
  split
  · subst_vars; rw [mix_getElem h, if_pos (by omega)]
  · rw [mix_getElem h, mix_getElem h]
    by_cases a1 : q < i
    · rw [if_pos a1, if_pos (by omega)]
    · rw [if_neg a1, if_neg (by omega)]
theorem mix_at {α : Type} {a b : List α} (h : a.length = b.length) {i : Nat} (hi : i < b.length) : (mix a b i).set i b[i] = mix a b i := by
  refine List.ext_getElem (by simp) fun q h1 h2 => ?_
  rw [List.getElem_set]
  split
  · subst_vars; rw [mix_getElem h, if_neg (by omega)]
  · rfl
end Go.Lin
namespace Go.Proofs.YthipmbmjodhiiaaGreat
open Go.RowKit Go.Rep Go.Lim Go.Lin

set_option maxRecDepth 100000 in
set_option maxHeartbeats 800000 in
theorem copied_any (X : Nat → Bool) (w : World) (u : Value) (m : List (List Rat)) (n c : Nat) (hX : HX X w) (hu : MV (mk X w) u m) (hsh : Shp n c m) (hc : colsL m = c) (hn : n ≤ 1000) (hcc : c ≤ 1000) : Calls Tryz.prog 122 #[u] w (MOut X 27 34 w m) := by
  have hcol := columns_any X w u m hu
  obtain ⟨ao0, ca, rfl, hca, hsa⟩ := hu
  have hha := hsa.hd
  rw [hc] at hcol
  have hml := hid hsh.1
  have hrl := hid hsh.2
  rw [hml.out] at hca hha hcol ⊢
  obtain ⟨A, hA⟩ : ∃ A, List.replicate n (List.replicate c (0 : Rat)) = A := ⟨_, rfl⟩
  have hAl : Hid (A.length = n) := hid (by rw [← hA]; simp)
  have hAi : Hid (∀ i (hi : i < A.length), A[i] = List.replicate c (0 : Rat)) := hid fun i hi => by subst hA; simp
  have hmA : Hid (m.length = A.length) := hid (by rw [hml.out, hAl.out])
  have hz0 := zero_any X w n c hX hn hcc
  rw [hA] at hz0
  clear hA hsh hc
  go_enter Tryz.func122, Tryz.ntmps122
  go_wp2_with fail
  refine hcol.mono ?_
  rintro e w1 ⟨rfl, rfl⟩
  go_wp2_with fail
  refine hz0.mono ?_
  rintro e w2 ⟨hE2, ao, cap, hs, rfl, hM2⟩
  rw [hAl.out]
  have hlen := hid (hM2.len.trans hAl.out)
  have hcap : n ≤ cap := by have := hM2.capLen; rw [hAl.out] at this; exact this
  have hhO : Hd ao n := by have := hM2.outer.hd; rw [hlen.out] at this; exact this
  have hrl2 : Hid (∀ i (hi : i < hs.length), hs[i].2.1 = c) := hid fun i hi => by
    have h1 : i < A.length := by rw [hAl.out, ← hlen.out]; exact hi
    rw [hM2.rlen i hi h1, hAi.out i h1]; simp
  clear hcol hz0
  go_wp2_with fail
  go_loopw [15] (fun k wr => ∃ (i : Nat), k = .int .i64 i ∧ i ≤ n ∧ MO X w1.heap.size 27 34 wr ao cap hs (mix m A i) ∧ Ext w1 wr) (fun k _ => n - (intOf k).toNat)
  case atStart => exact ⟨0, rfl, Nat.zero_le _, by rw [mix_zero]; exact hM2, hE2⟩
  case round =>
    obtain ⟨i, rfl, hi, hM, hE⟩ := hrel
    by_cases hlt : i < n
    · have him : i < m.length := by rw [hml.out]; exact hlt
      have hiA : i < A.length := by rw [hAl.out]; exact hlt
      have hih : i < hs.length := by rw [hlen.out]; exact hlt
      obtain ⟨a1, c1, hX1, hc1, hcl1, hq1⟩ := hsa.row i him
      have k00 := hc1.out noY wr hE rfl
      obtain ⟨x, hx⟩ : ∃ x, m[i] = x := ⟨_, rfl⟩
      obtain ⟨z, hz⟩ : ∃ z, A[i] = z := ⟨_, rfl⟩
      rw [hx] at k00 hcl1 hq1
      have hxl : Hid (x.length = c) := hid (by rw [← hx]; exact hrl.out _ (List.getElem_mem _))
      have hzl : Hid (z.length = c) := hid (by rw [← hz, hAi.out i hiA]; simp)
      have hxz : Hid (x.length = z.length) := hid (by rw [hxl.out, hzl.out])
      rw [hxl.out] at k00 hcl1
      have hst : Hid ((mix m A i).set i z = mix m A i) := hid (by rw [← hz]; exact mix_at hmA.out hiA)
      have hfin : Hid ((mix m A i).set i x = mix m A (i + 1)) := hid (by rw [← hx]; exact mix_set hmA.out him)
      have hmi : Hid (i < (mix m A i).length) := hid (by rw [mix_len hmA.out]; exact him)
      have hh1 : Hd a1 c := by have := hq1.hd; rw [hxl.out] at this; exact this
      have hrow : RV (mk X w1) (.slice a1 c c1) x := ⟨a1, c1, by rw [hxl.out], by rw [hxl.out]; exact hcl1, hq1⟩
      obtain ⟨a, na, cr, hhd⟩ : ∃ a na cr, hs[i] = (a, na, cr) := ⟨_, _, _, rfl⟩
      have hna : na = c := by have := hrl2.out i hih; rw [hhd] at this; exact this
      subst hna
      have hhd' := hid hhd
      rw [← hst.out] at hM
      have hM' : MO X w1.heap.size 27 34 wr ao cap hs ((mix m A i).set i (mix x z 0)) := by rw [mix_zero]; exact hM
      clear hx hz hc1 hq1 hhd hM
      obtain ⟨wo, hwo⟩ : ∃ wo, wo = wr := ⟨_, rfl⟩
      subst hwo
      go_wp2_with (with_reducible refine up_ix1 slRats (by omega) (by assumption) ?_)
      go_loopw [22] (fun k wr => ∃ (j : Nat), k = .int .i64 j ∧ j ≤ na ∧ MO X w1.heap.size 27 34 wr ao cap hs ((mix m A i).set i (mix x z j)) ∧ Ext w1 wr) (fun k _ => na - (intOf k).toNat)
      case atStart => exact ⟨0, rfl, Nat.zero_le _, hM', hE⟩
      case round =>
        obtain ⟨j, rfl, hj, hM, hE⟩ := hrel
        by_cases hlj : j < na
        · have hjx : j < x.length := by rw [hxl.out]; exact hlj
          have hXr : HX X wr := hX.ext hE
          have hXz := hM.hz hXr
          have hsr : Sl QV 3 (mk (mz X ao hs) wr) a1 x := by
            obtain ⟨_, _, heq, _, h3⟩ := hM.old RV.mono hrow hE (Nat.le_refl _) (fun _ _ h => h)
            simp only [Value.slice.injEq] at heq
            obtain ⟨rfl, _, rfl⟩ := heq
            exact h3
          have hmx : Hid (i < ((mix m A i).set i (mix x z j)).length) := hid (by rw [List.length_set]; exact hmi.out)
          have hjl : Hid ((mix x z j).length = na) := hid (by rw [mix_len hxz.out, hxl.out])
          have hOr := hM.row i hih hmx.out
          rw [List.getElem_set_self] at hOr
          simp only [hhd'.out] at hOr
          have hda : Hd a na := by have := hOr.hd; rw [hjl.out] at this; exact this
          have hun : Hid (un (cut (mz X ao hs) a) a = mz X ao hs) := hid (un_cut fun k hk => by have := hM.mz_sub hih k; rw [hhd'.out] at this; exact this hk)
          have hbsep : Hid (ob a (adr ao i).block = false) := hid (by
            cases hb : ob a (adr ao i).block
            · rfl
            · have h1 := (hM.sep i hih (adr ao i).block (by rw [hhd'.out]; exact hb)).2
              obtain ⟨b0, o0, rfl⟩ := hhO (by omega)
              simp [ob, adr] at h1)
          have hbnew : Hid (ob a wr.heap.size = false) := hid (hOr.ob_ge (Nat.le_refl _))
          obtain ⟨g, o, hg⟩ : ∃ g o, adr a (j * 3) = ⟨g, o, none⟩ := ⟨_, _, rfl⟩
          have i2 : ∀ W, (Instr.indexAt 25 (.slice ao n cap) (.int .i64 (i : Int))).run Tryz.prog W = .ok (.pointer (some (adr ao i))) W := run_ix1 slRats ao n cap .i64 i hhO (by omega) rfl
          have i3 : ∀ W, (Instr.indexAt 27 (.slice a na cr) (.int .i64 (j : Int))).run Tryz.prog W = .ok (.pointer (some ⟨g, o, none⟩)) W := by rw [← hg]; exact run_indexAt_adr slRat a na cr .i64 j hda (by omega)
          have bx := Bx.new wr #[.bool false, .slice none 0 0, .slice none 0 0] 34
          obtain ⟨Z, hZ⟩ : ∃ Z, mz X ao hs = Z := ⟨_, rfl⟩
          have hZ' := hid hZ
          rw [hZ] at hXz hsr hOr hun
          have hjs : Hid ((mix x z j).set j x[j] = mix x z (j + 1)) := hid (mix_set hxz.out hjx)
          have hadd0 : Hid (x[j] + 0 = x[j]) := hid (Rat.add_zero _)
          have hhdr := (hM.hdr i hih).1
          rw [hhd'.out] at hhdr
          dsimp only at hhdr
          clear hZ k00
          go_wp2_with (first | (with_reducible refine up_ixn slRat (by omega) (by assumption) ?_) | ((with_reducible show wpList _ _ _ (⟨_, .load _ _, _, _, _, _⟩ :: _) _ _); refine st_loadElem stRat j hsr hjx rfl (by simp) QV.agg ?_; intro u5 hu5; obtain ⟨s5, a5, n5, c5, d5, k5, e5, rfl⟩ := hu5.shape) | ((with_reducible show wpList _ _ _ (⟨_, .store _ _ _, _, _, _, _⟩ :: _) _ _); refine st_storeBox stRat rfl rfl bx rfl rfl (one3 _ _ _ _ _ _ _) ?_; intro w5 r1 r2))
          have hE5 : Ext wr w5 := ExtX.box ((ExtX.refl wr).alloc _) r2 (Nat.le_refl _)
          have hEd : Ext w5 w5.drew := (ExtX.refl w5).drew
          have hM5 := hM.ext0 hE5
          have hO5 := hOr.ext0 QC.elem hE5
          have hx5 : QV (mk Z w5.drew) (.agg #[.bool s5, .slice a5 n5 c5, .slice d5 k5 e5]) x[j] := mkx QV.mono hu5 (hE5.trans hEd)
          have h00 : QV (mk Z w5.drew) (.agg #[.bool false, .slice none 0 0, .slice none 0 0]) 0 := (QC.zero _).qv (by rw [hq_zero]; decide)
          have hXd : HX Z w5.drew := hXz.ext (hE5.trans hEd)
          have hS : Hid (∀ Y W', ExtX Y w5.drew W' → Y (adr ao i).block = false → Y wr.heap.size = false → W'.cell? (adr ao i) = some (.slice a na cr) ∧ W'.cell? ⟨wr.heap.size, 0, none⟩ = some (.bool s5) ∧ W'.cell? ⟨wr.heap.size, 1, none⟩ = some (.slice a5 n5 c5) ∧ W'.cell? ⟨wr.heap.size, 2, none⟩ = some (.slice d5 k5 e5)) := hid fun Y W' h hy1 hy2 => by
            have b1 := (r1.ext0 hEd).ext h hy2
            exact ⟨h.cellY ((hE5.trans hEd).cell hhdr) hy1, b1.cell 0 rfl, b1.cell 1 rfl, b1.cell 2 rfl⟩
          obtain ⟨k20, k30, k31, k32⟩ := hS.out noY w5.drew (ExtX.refl _) rfl rfl
          obtain ⟨bw, hbw⟩ : ∃ bw, wr.heap.size = bw := ⟨_, rfl⟩
          rw [hbw] at hS k30 k31 k32 hbnew ⊢
          clear hhdr r1 bx
          go_wp2_with fail
          go_region_held3 (fun w' => w'.cell? (adr ao i) = some (.slice a na cr) ∧ w'.cell? ⟨bw, 0, none⟩ = some (.bool s5) ∧ w'.cell? ⟨bw, 1, none⟩ = some (.slice a5 n5 c5) ∧ w'.cell? ⟨bw, 2, none⟩ = some (.slice d5 k5 e5))
            (first | exact hS.out noY _ t1 rfl rfl | exact hS.out (ob a) _ ((ExtX.of t1).trans hset.2) hbsep.out hbnew.out | go_keep)
            ((go_at_call 107; (with_reducible refine (qadd Z w5.drew _ _ _ 0 hXd hx5 h00).mono ?_); rintro ee w6 ⟨t1, u6, rfl, hu6⟩; obtain ⟨s6, a6, n6, c6, d6, k6, e6, rfl⟩ := hu6.shape; rw [hadd0.out] at hu6; have hO6 := hO5.ext0 QC.elem (hEd.trans t1); obtain ⟨_, v0, v1, v2, _, ⟨g0, f0⟩, ⟨g1, f1⟩, ⟨g2, f2⟩, _⟩ := hO6.cell3 j (by rw [hjl.out]; exact hlj) hg; have hset := hO6.set3 tyRat QC.elem j (by rw [hjl.out]; exact hlj) hg (v0 := .bool s6) (v1 := .slice a6 n6 c6) (v2 := .slice d6 k6 e6) (x := x[j]) (by rw [hun.out]; exact hu6)))
          obtain ⟨q1, q2⟩ := hset
          rw [hjs.out] at q1
          have q2' : ExtX (ob hs[i].1) w6 (((w6.setCell ⟨g, o, none⟩ (.bool s6)).setCell ⟨g, o + 1, none⟩ (.slice a6 n6 c6)).setCell ⟨g, o + 2, none⟩ (.slice d6 k6 e6)) := by rw [hhd'.out]; exact q2
          have hM6 := hM5.ext0 (hEd.trans t1)
          have hM7 := hM6.upd hih (l := mix x z (j + 1)) q2' (fun hi' => by rw [List.getElem_set_self, mix_len hxz.out, mix_len hxz.out]) (by rw [hZ'.out, hhd'.out]; exact q1)
          rw [List.set_set] at hM7
          have hE7 := hM6.ext_from ((hE.trans hE5).trans (hEd.trans t1)) (Nat.le_refl _) (ExtX.row hih q2')
          clear k20 k30 k31 k32 g0 g1 g2 f0 f1 f2 i2 i3
          go_wp2_with fail
          go_roundw
          case rel => exact ⟨j + 1, by go_num, by omega, hM7, hE7⟩
          case measure => simp [intOf]; omega
        · have hjn : j = na := by omega
          subst hjn
          rw [mix_full (a := x) (b := z) (by rw [hxl.out]; exact Nat.le_refl _) (by rw [hzl.out]; exact Nat.le_refl _), hfin.out] at hM
          go_wp2_with fail
          go_roundw
          case rel => exact ⟨i + 1, by go_num, by omega, hM, hE⟩
          case measure => simp [intOf]; omega
    · have hin : i = n := by omega
      subst hin
      rw [mix_full (by rw [hml.out]; exact Nat.le_refl _) (by rw [hAl.out]; exact Nat.le_refl _)] at hM
      go_wp2_with fail
      go_ret
      exact ⟨hE, ao, cap, hs, by rw [hml.out]; rfl, hM⟩
end Go.Proofs.YthipmbmjodhiiaaGreat


namespace Go.Rep
open Go.RowKit Go.Lim
section
variable {P : Program} {ops : Array Oper} {Q : Exit → Act → World → Prop} {rest : List Oper} {a : Act} {w : World}
variable {α : Type} {R : Mem → Value → α → Prop} {sz : Nat} {X : Nat → Bool} {base : Nat} {e : TypeId} {ao : Option Addr} {cap : Nat} {l : List α}
variable {d : Option Tmp} {ty : TypeId} {ps : String} {af : Array Edge}
theorem st_loadOL {t : TypeId} {x : Operand} {k : Nat} (hT : StructT P t sz) (i : Nat) (h : OL R sz X base e w ao cap l) (hi : i < l.length) (hx : a.eval x = .pointer (some (adr ao k))) (hk : k = i * sz) (hag : ∀ h u y, R h u y → ∃ cs, u = .agg cs)
    (K : ∀ u, R (mk (un X ao) w) u l[i] → wpList P ops Q rest (a.put d u) w) :
    wpList P ops Q (⟨d, .load t x, ty, ps, af, none⟩ :: rest) a w := by
  refine wpList_plain rfl fun K' hK' => ?_
  subst hk
  obtain ⟨fs, ti, h1, h2, h3⟩ := hT
  obtain ⟨us, p1, p2, _, p3, p5⟩ := h.cells
  have hi' : i < us.length := by omega
  have h6 := p5 i hi' hi
  obtain ⟨cs, hcs⟩ := hag _ _ _ h6
  have hsz : cs.toList.length = sz := by have := p2 us[i] (List.getElem_mem _); rw [hcs] at this; simpa [Value.cells] using this
  have hl := run_loadCells_list (P := P) w (adr ao (i * sz)) cs.toList (fun j v hj => by
    rw [adr_add]
    have hj1 : j < sz := by rw [← hsz]; exact (List.getElem?_eq_some_iff.1 hj).1
    have hget := flat_get us i j hi' p2 hj1
    rw [hcs] at hget
    have hj2 : (cellsL (.agg cs))[j]? = some v := by simpa [cellsL, Value.cells] using hj
    rw [hj2] at hget
    exact (p3 _ _ hget).1)
  rw [hsz] at hl
  unfold Oper.wp
  simp [execOp, hx, Instr.loadAt, Instr.sureAddr, loadVar, isAgg, run_underlying h1, sizeOf, typeInfo, h2, h3, hl, Result.andThen]
  rw [hcs] at h6
  exact hK' _ _ (K _ h6)
end
/-- The struct at an element's address, now and in all worlds behind that leave the list's block. -/
theorem OL.rat {R : Mem → Value → Rat → Prop} (hR : Shaped R) {X : Nat → Bool} {base : Nat} {e : TypeId} {w : World} {ao : Option Addr} {cap : Nat} {l : List Rat} (h : OL R 3 X base e w ao cap l) (i : Nat) (hi : i < l.length) :
    ∃ g o sg a n c d k e, adr ao (i * 3) = ⟨g, o, none⟩ ∧ ob ao g = true ∧ Hid (∀ Y W', ExtX Y w W' → Y g = false → W'.cell? ⟨g, o, none⟩ = some (.bool sg) ∧ W'.cell? ⟨g, o + 1, none⟩ = some (.slice a n c) ∧ W'.cell? ⟨g, o + 2, none⟩ = some (.slice d k e)) ∧ R (mk (un X ao) w) (.agg #[.bool sg, .slice a n c, .slice d k e]) l[i] := by
  obtain ⟨b0, o0, hb0⟩ := h.hd (by omega)
  have hg : adr ao (i * 3) = ⟨b0, o0 + i * 3, none⟩ := by rw [hb0]; rfl
  obtain ⟨u, v0, v1, v2, hu, ⟨h0, _⟩, ⟨h1, _⟩, ⟨h2, _⟩, h3⟩ := h.cell3 i hi hg
  obtain ⟨sg, a, n, c, d, k, e, rfl⟩ := hR _ _ _ h3
  simp only [cellsL, Value.cells, List.cons.injEq, and_true] at hu
  obtain ⟨rfl, rfl, rfl⟩ := hu
  exact ⟨_, _, sg, a, n, c, d, k, e, hg, by rw [hb0]; simp [ob], hid fun Y W' hE hY => ⟨hE.cellY h0 hY, hE.cellY h1 hY, hE.cellY h2 hY⟩, h3⟩
end Go.Rep

