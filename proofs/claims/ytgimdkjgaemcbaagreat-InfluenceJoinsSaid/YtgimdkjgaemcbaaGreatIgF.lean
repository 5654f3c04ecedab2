/- Parts of a proof: each theorem states what it proves, and its conditions. -/
import Derived.Test.YtgimdkjgaemcbaaGreatIgE
import Derived.BigRegion
namespace Go.Proofs.YtgimdkjgaemcbaaGreat
open Go.RowKit Go.Rep Go.Lim
def e5 (b : Bool) : Int := if b then 5 else 0
def QEOut (X : Nat -> Bool) (w : World) (q : Rat) (c : Int) (e : Ending) (w' : World) : Prop := Ext w w' /\ ∃ u, e = .returned (.tuple #[u, .int .i64 c]) /\ QC (mk X w') u q
theorem mk_pos (x y : Int) (h : 0 < y) : mkRat x y.natAbs = (x : Rat) / (y : Rat) := by
  rw [Rat.mkRat_eq_div, <- Rat.intCast_natCast, Int.natAbs_of_nonneg (by omega)]
theorem mk_neg (x y : Int) (h : y < 0) : mkRat (-x) y.natAbs = (x : Rat) / (y : Rat) := by
  rw [Rat.mkRat_eq_div, <- Rat.intCast_natCast, Int.ofNat_natAbs_of_nonpos (by omega), Rat.intCast_neg, Rat.intCast_neg, Rat.div_def, Rat.div_def, show (-(y : Rat))⁻¹ = -(y : Rat)⁻¹ by grind]
  grind
theorem _root_.Go.Rep.ZC.mag {h : Mem} {s : Bool} {ao : Option Addr} {n c : Nat} {y : Int} (hu : ZC h (.agg #[.bool s, .slice ao n c]) y) : NC h (.slice ao n c) y.natAbs := by
  obtain ⟨_, _, _, l, heq, h1, h2, h3⟩ := hu
  simp only [Value.agg.injEq, Array.mk.injEq, List.cons.injEq, Value.bool.injEq, Value.slice.injEq, and_true] at heq
  obtain ⟨rfl, rfl, rfl, rfl⟩ := heq
  exact ⟨_, _, _, rfl, h1, h2.2, h3⟩
theorem _root_.Go.Rep.ZC.shape {h : Mem} {u : Value} {q : Int} (hu : ZC h u q) : ∃ s ao n c, u = .agg #[.bool s, .slice ao n c] := by
  obtain ⟨s, ao, c, m, rfl, _⟩ := hu; exact ⟨_, _, _, _, rfl⟩
set_option maxRecDepth 100000 in
theorem qmake (X : Nat -> Bool) (w : World) (u v : Value) (x y : Int) (hX : HX X w) (hu : ZC (mk X w) u x) (hv : ZC (mk X w) v y) (hx : lg x.natAbs <= 549755813888) (hy : lg y.natAbs <= 549755813888) : Calls Tryz.prog 231 #[u, v] w (QEOut X w ((x : Rat) / (y : Rat)) (e5 (decide (y = 0)))) := by
  have hlx := hid hx
  have hly := hid hy
  obtain ⟨s1, a1, n1, c1, rfl⟩ := hu.shape
  obtain ⟨s2, a2, n2, c2, rfl⟩ := hv.shape
  obtain ⟨W, hW, hE, b0, b1, b2, hz⟩ := boxes3 w #[.bool s1, .slice a1 n1 c1] #[.bool s2, .slice a2 n2 c2] #[.bool false, .slice none 0 0, .slice none 0 0] 36 36 38
  have hXW : HX (hidB X w.heap.size 3) W := hX.boxes hz
  have hu1 := ZC.mono _ _ _ _ (le_boxes (nb := 3) hE) hu
  have hv1 := ZC.mono _ _ _ _ (le_boxes (nb := 3) hE) hv
  obtain ⟨b, hb⟩ : ∃ b, w.heap.size = b := ⟨_, rfl⟩
  have hbw : w.heap.size <= b := by omega
  rw [hb] at b0 b1 b2 hz hXW hu1 hv1
  have hvz := hv1.zv hy
  have huz := hu1.zv hx
  have k00 := b0.cell 0 rfl
  have k01 := b0.cell 1 rfl
  have k10 := b1.cell 0 rfl
  have k11 := b1.cell 1 rfl
  have h0 : y = 0 \/ 0 < y \/ y < 0 := by omega
  obtain ⟨ec, hec'⟩ : ∃ ec : Int, e5 (decide (y = 0)) = ec := ⟨_, rfl⟩
  obtain ⟨q, hq'⟩ : ∃ q : Rat, (x : Rat) / (y : Rat) = q := ⟨_, rfl⟩
  rw [hec', hq']
  clear hu hv hx hy
  go_enter Tryz.func231, Tryz.ntmps231
  go_wp2_with fail
  refine (isign (hidB X b 3) W _ _ hXW hvz).mono ?_
  rintro e w5 ⟨hE5, rfl⟩
  have bb0 := b0.ext0 hE5
  have bb1 := b1.ext0 hE5
  have bb2 := b2.ext0 hE5
  have j00 := bb0.cell 0 rfl
  have j01 := bb0.cell 1 rfl
  have j10 := bb1.cell 0 rfl
  have j11 := bb1.cell 1 rfl
  clear k00 k01 k10 k11
  rcases h0 with h0 | h0 | h0
  · have hec : Hid ((5 : Int) = ec) := hid (by rw [<- hec', decide_eq_true h0]; rfl)
    have hres : Hid ((0 : Rat) = q) := hid (by rw [<- hq', h0, Rat.intCast_zero, Rat.div_def, Rat.inv_zero, Rat.mul_zero])
    have hI : (y.sign == 0) = true := by rw [h0]; rfl
    generalize y.sign = sgy at *
    clear h0 hec' hq'
    go_wp2_with ((with_reducible show wpList _ _ _ (⟨_, .store _ _ _, _, _, _, _⟩ :: _) _ _); refine st_storeBox stRat rfl rfl bb2 rfl rfl (one3 _ _ _ _ _ _ _) ?_; intro w7 r1 r2)
    exact bodyPost_ret (results_box2 rfl rfl stRat r1 rfl) rfl ⟨ExtX.box (hE.trans hE5) r2 (by omega), _, by rw [<- hec.out]; rfl, by rw [<- hres.out]; exact QC.zero _⟩
  · have hec : Hid (ec = (0 : Int)) := hid (by rw [<- hec', decide_eq_false (by omega)]; rfl)
    have hres : Hid (mkRat x y.natAbs = q) := hid (by rw [<- hq']; exact mk_pos x y h0)
    have hI : (y.sign == 0) = false := by rw [Int.sign_eq_one_of_pos h0]; rfl
    have hI2 : decide (y.sign < 0) = false := by rw [Int.sign_eq_one_of_pos h0]; rfl
    have hy0 : Hid (0 < y.natAbs) := hid (by omega)
    have hvz5 := mkx ZV.mono hvz hE5
    have hXs5 := hXW.ext hE5
    clear h0 hec' hq'
    go_wp2_with fail
    refine (isign (hidB X b 3) w5 _ _ hXs5 hvz5).mono ?_
    rintro e ws ⟨hE6, rfl⟩
    generalize y.sign = sgy at *
    have bz0 := bb0.ext0 hE6
    have bz1 := bb1.ext0 hE6
    have bz2 := bb2.ext0 hE6
    have hXs := hXs5.ext hE6
    have hEs := hE.trans (hE5.trans hE6)
    have hzn := mkx ZC.mono (mkx ZC.mono hu1 hE5) hE6
    have hzd := (mkx ZC.mono (mkx ZC.mono hv1 hE5) hE6).mag
    clear j00 j01 j10 j11
    generalize hsz : s1 = sz at *
    generalize haz : a1 = az at *
    generalize hnz : n1 = nz at *
    generalize hcz : c1 = cz at *
    generalize hxz : x = z at *
    have bzn := hlx
    have hz0 : Hid (z + 0 = z) := hid (by omega)
    go_upto_region 5 with (fail)
    have hEd : Ext ws ws.drew := (ExtX.refl ws).drew
    have hXd : HX (hidB X b 3) ws.drew := hXs
    have hxzd : ZC (mk (hidB X b 3) ws.drew) (.agg #[.bool sz, .slice az nz cz]) z := hzn
    have hydd : NC (mk (hidB X b 3) ws.drew) (.slice a2 n2 c2) y.natAbs := hzd
    have hxv := hxzd.zv bzn.out
    have h00 := ZC.zv (ZC.zero (mk (hidB X b 3) ws.drew)) (by decide)
    have hB := hid (And.intro bz0 bz1)
    have hS : Hid (∀ W', Ext ws.drew W' -> W'.cell? ⟨b, 0, none⟩ = some (.bool sz) /\ W'.cell? ⟨b, 1, none⟩ = some (.slice az nz cz) /\ W'.cell? ⟨b + 1, 0, none⟩ = some (.bool s2) /\ W'.cell? ⟨b + 1, 1, none⟩ = some (.slice a2 n2 c2)) :=
      hid fun W' h => ⟨(bz0.ext0 (hEd.trans h)).cell 0 rfl, (bz0.ext0 (hEd.trans h)).cell 1 rfl, (bz1.ext0 (hEd.trans h)).cell 0 rfl, (bz1.ext0 (hEd.trans h)).cell 1 rfl⟩
    have k00 := bz0.cell 0 rfl
    have k01 := bz0.cell 1 rfl
    have k10 := bz1.cell 0 rfl
    have k11 := bz1.cell 1 rfl
    go_region_held3 (fun w' => w'.cell? ⟨b, 0, none⟩ = some (.bool sz) /\ w'.cell? ⟨b, 1, none⟩ = some (.slice az nz cz) /\ w'.cell? ⟨b + 1, 0, none⟩ = some (.bool s2) /\ w'.cell? ⟨b + 1, 1, none⟩ = some (.slice a2 n2 c2))
      (first | exact hS.out _ t1 | exact hS.out _ t2 | exact ⟨((hB.out.1.ext0 (hEd.trans t2)).ext (bb2.set3 _ _ _).2 (ob_other (by omega))).cell 0 rfl, ((hB.out.1.ext0 (hEd.trans t2)).ext (bb2.set3 _ _ _).2 (ob_other (by omega))).cell 1 rfl, ((hB.out.2.ext0 (hEd.trans t2)).ext (bb2.set3 _ _ _).2 (ob_other (by omega))).cell 0 rfl, ((hB.out.2.ext0 (hEd.trans t2)).ext (bb2.set3 _ _ _).2 (ob_other (by omega))).cell 1 rfl⟩ | go_keep)
      (first | (go_at_call 142; (with_reducible refine (iadd (hidB X b 3) ws.drew _ _ _ _ hXd hxv h00).mono ?_); rintro ee w8 ⟨t1, u8, rfl, hu8⟩; rw [hz0.out] at hu8; have hX8 := HX.ext hXd t1; have hm8 := mkx NC.mono hydd t1) | (go_at_call 143; (with_reducible refine (qlowest (hidB X b 3) w8 _ _ z y.natAbs hX8 hu8 hm8 bzn.out hly.out hy0.out).mono ?_); rintro ee w9 ⟨hE9, u9, rfl, hu9⟩; obtain ⟨s9, a9, n9, c9, d9, k9, e9, rfl⟩ := hu9.shape; have t2 := t1.trans hE9; have bb2 := bz2.ext0 (hEd.trans t2); have g0 := bb2.cell 0 rfl; have g1 := bb2.cell 1 rfl; have g2 := bb2.cell 2 rfl; have f0 := bb2.frozen 0; have f1 := bb2.frozen 1; have f2 := bb2.frozen 2))
    rw [hres.out] at hu9
    obtain ⟨q1, q2⟩ := bb2.set3 (.bool s9) (.slice a9 n9 c9) (.slice d9 k9 e9)
    have h7 := QC.mono _ _ _ _ le_unbox (QC.mono _ _ _ _ (le_store q2 (by omega) (by omega)) hu9)
    have hEf : Ext w _ := ExtX.box (hEs.trans (hEd.trans t2)) q2 (by omega)
    clear g0 g1 g2 f0 f1 f2 k00 k01 k10 k11 hS hB
    go_wp2_with fail
    exact bodyPost_ret (results_box2 rfl rfl stRat q1 rfl) rfl ⟨hEf, _, by rw [hec.out]; rfl, h7⟩
  · have hec : Hid (ec = (0 : Int)) := hid (by rw [<- hec', decide_eq_false (by omega)]; rfl)
    have hres : Hid (mkRat (-x) y.natAbs = q) := hid (by rw [<- hq']; exact mk_neg x y h0)
    have hI : (y.sign == 0) = false := by rw [Int.sign_eq_neg_one_of_neg h0]; rfl
    have hI2 : decide (y.sign < 0) = true := by rw [Int.sign_eq_neg_one_of_neg h0]; rfl
    have hy0 : Hid (0 < y.natAbs) := hid (by omega)
    have hvz5 := mkx ZV.mono hvz hE5
    have hXs5 := hXW.ext hE5
    clear h0 hec' hq'
    go_wp2_with fail
    refine (isign (hidB X b 3) w5 _ _ hXs5 hvz5).mono ?_
    rintro e w6 ⟨hE6, rfl⟩
    generalize y.sign = sgy at *
    have bz0 := bb0.ext0 hE6
    have bz1 := bb1.ext0 hE6
    have bz2 := bb2.ext0 hE6
    have hXs6 := hXs5.ext hE6
    have hzn6 := mkx ZV.mono (mkx ZV.mono huz hE5) hE6
    clear j00 j01 j10 j11
    have k00 := bz0.cell 0 rfl
    have k01 := bz0.cell 1 rfl
    have k10 := bz1.cell 0 rfl
    have k11 := bz1.cell 1 rfl
    go_wp2_with fail
    refine (ineg (hidB X b 3) w6 _ _ hXs6 hzn6).mono ?_
    rintro e w7 ⟨hE7, u7, rfl, hu7⟩
    obtain ⟨sz, az, nz, cz, rfl⟩ := hu7.shape
    have bn0 := bz0.ext0 hE7
    have bn1 := bz1.ext0 hE7
    have bn2 := bz2.ext0 hE7
    have hXs7 := hXs6.ext hE7
    have hEs7 := hE.trans (hE5.trans (hE6.trans hE7))
    have hzd7 := (mkx ZC.mono (mkx ZC.mono (mkx ZC.mono hv1 hE5) hE6) hE7).mag
    have hbz : Hid (lg (-x).natAbs <= 549755813888) := hid (by rw [Int.natAbs_neg]; exact hlx.out)
    clear k00 k01 k10 k11 bz0 bz1 bz2
    generalize hxz : -x = z at *
    go_upto_region 5 with ((with_reducible show wpList _ _ _ (⟨_, .store _ _ _, _, _, _, _⟩ :: _) _ _); refine st_storeBox stInt rfl rfl bn0 rfl rfl (one2 _ _ _ _) ?_; intro ws bz0 r2)
    have bz1 := bn1.ext r2 (ob_other (by omega))
    have bz2 := bn2.ext r2 (ob_other (by omega))
    have hXs := hXs7.ext r2
    have hzn := ZC.mono _ _ _ _ (le_store (X := X) (lo := b) (nb := 3) r2 (by omega) (by omega)) hu7
    have hzd := NC.mono _ _ _ _ (le_store (X := X) (lo := b) (nb := 3) r2 (by omega) (by omega)) hzd7
    have hEs : Ext w ws := ExtX.box hEs7 r2 (by omega)
    have bzn := hbz
    have hz0 : Hid (z + 0 = z) := hid (by omega)
    have hEd : Ext ws ws.drew := (ExtX.refl ws).drew
    have hXd : HX (hidB X b 3) ws.drew := hXs
    have hxzd : ZC (mk (hidB X b 3) ws.drew) (.agg #[.bool sz, .slice az nz cz]) z := hzn
    have hydd : NC (mk (hidB X b 3) ws.drew) (.slice a2 n2 c2) y.natAbs := hzd
    have hxv := hxzd.zv bzn.out
    have h00 := ZC.zv (ZC.zero (mk (hidB X b 3) ws.drew)) (by decide)
    have hB := hid (And.intro bz0 bz1)
    have hS : Hid (∀ W', Ext ws.drew W' -> W'.cell? ⟨b, 0, none⟩ = some (.bool sz) /\ W'.cell? ⟨b, 1, none⟩ = some (.slice az nz cz) /\ W'.cell? ⟨b + 1, 0, none⟩ = some (.bool s2) /\ W'.cell? ⟨b + 1, 1, none⟩ = some (.slice a2 n2 c2)) :=
      hid fun W' h => ⟨(bz0.ext0 (hEd.trans h)).cell 0 rfl, (bz0.ext0 (hEd.trans h)).cell 1 rfl, (bz1.ext0 (hEd.trans h)).cell 0 rfl, (bz1.ext0 (hEd.trans h)).cell 1 rfl⟩
    have k00 := bz0.cell 0 rfl
    have k01 := bz0.cell 1 rfl
    have k10 := bz1.cell 0 rfl
    have k11 := bz1.cell 1 rfl
    go_region_held3 (fun w' => w'.cell? ⟨b, 0, none⟩ = some (.bool sz) /\ w'.cell? ⟨b, 1, none⟩ = some (.slice az nz cz) /\ w'.cell? ⟨b + 1, 0, none⟩ = some (.bool s2) /\ w'.cell? ⟨b + 1, 1, none⟩ = some (.slice a2 n2 c2))
      (first | exact hS.out _ t1 | exact hS.out _ t2 | exact ⟨((hB.out.1.ext0 (hEd.trans t2)).ext (bb2.set3 _ _ _).2 (ob_other (by omega))).cell 0 rfl, ((hB.out.1.ext0 (hEd.trans t2)).ext (bb2.set3 _ _ _).2 (ob_other (by omega))).cell 1 rfl, ((hB.out.2.ext0 (hEd.trans t2)).ext (bb2.set3 _ _ _).2 (ob_other (by omega))).cell 0 rfl, ((hB.out.2.ext0 (hEd.trans t2)).ext (bb2.set3 _ _ _).2 (ob_other (by omega))).cell 1 rfl⟩ | go_keep)
      (first | (go_at_call 142; (with_reducible refine (iadd (hidB X b 3) ws.drew _ _ _ _ hXd hxv h00).mono ?_); rintro ee w8 ⟨t1, u8, rfl, hu8⟩; rw [hz0.out] at hu8; have hX8 := HX.ext hXd t1; have hm8 := mkx NC.mono hydd t1) | (go_at_call 143; (with_reducible refine (qlowest (hidB X b 3) w8 _ _ z y.natAbs hX8 hu8 hm8 bzn.out hly.out hy0.out).mono ?_); rintro ee w9 ⟨hE9, u9, rfl, hu9⟩; obtain ⟨s9, a9, n9, c9, d9, k9, e9, rfl⟩ := hu9.shape; have t2 := t1.trans hE9; have bb2 := bz2.ext0 (hEd.trans t2); have g0 := bb2.cell 0 rfl; have g1 := bb2.cell 1 rfl; have g2 := bb2.cell 2 rfl; have f0 := bb2.frozen 0; have f1 := bb2.frozen 1; have f2 := bb2.frozen 2))
    rw [hres.out] at hu9
    obtain ⟨q1, q2⟩ := bb2.set3 (.bool s9) (.slice a9 n9 c9) (.slice d9 k9 e9)
    have h7 := QC.mono _ _ _ _ le_unbox (QC.mono _ _ _ _ (le_store q2 (by omega) (by omega)) hu9)
    have hEf : Ext w _ := ExtX.box (hEs.trans (hEd.trans t2)) q2 (by omega)
    clear g0 g1 g2 f0 f1 f2 k00 k01 k10 k11 hS hB
    go_wp2_with fail
    exact bodyPost_ret (results_box2 rfl rfl stRat q1 rfl) rfl ⟨hEf, _, by rw [hec.out]; rfl, h7⟩
theorem div_eq (x y : Rat) : ((x.num * (y.den : Int) : Int) : Rat) / ((y.num * (x.den : Int) : Int) : Rat) = x / y := by
  have hx : (x.num : Rat) / (x.den : Rat) = x := by rw [<- Rat.mkRat_eq_div]; exact Rat.mkRat_self x
  have hy : (y.num : Rat) / (y.den : Rat) = y := by rw [<- Rat.mkRat_eq_div]; exact Rat.mkRat_self y
  rw [Rat.intCast_mul, Rat.intCast_mul, Rat.intCast_natCast, Rat.intCast_natCast]
  have h1 : (x.den : Rat) ≠ 0 := by have := x.den_nz; exact_mod_cast this
  have h2 : (y.den : Rat) ≠ 0 := by have := y.den_nz; exact_mod_cast this
  by_cases h3 : (y.num : Rat) = 0
  · rw [<- hy, h3]; simp [Rat.div_def]
  · conv => rhs; rw [<- hx, <- hy]
    grind
theorem div_zero (y x : Rat) : y.num * (x.den : Int) = 0 ↔ y = 0 := by
  have h1 : (x.den : Int) ≠ 0 := by have := x.den_nz; omega
  rw [Int.mul_eq_zero, Rat.num_eq_zero]
  exact or_iff_left h1
set_option maxRecDepth 100000 in
set_option maxHeartbeats 1600000 in
theorem qdiv (X : Nat -> Bool) (w : World) (u v : Value) (x y : Rat) (hX : HX X w) (hu : QV (mk X w) u x) (hv : QV (mk X w) v y) : Calls Tryz.prog 182 #[u, v] w (QEOut X w (x / y) (e5 (decide (y = 0)))) := by
  have hlx := hid hu.hq
  have hly := hid hv.hq
  obtain ⟨s1, a1, n1, c1, d1, k1, e1, rfl⟩ := hu.shape
  obtain ⟨s2, a2, n2, c2, d2, k2, e2, rfl⟩ := hv.shape
  obtain ⟨W, hW, hE, b0, b1, b2, hz⟩ := boxes3 w #[.bool s1, .slice a1 n1 c1, .slice d1 k1 e1] #[.bool s2, .slice a2 n2 c2, .slice d2 k2 e2] #[.bool false, .slice none 0 0, .slice none 0 0] 38 38 38
  have hXW : HX (hidB X w.heap.size 3) W := hX.boxes hz
  have hu1 := QV.mono _ _ _ _ (le_boxes (nb := 3) hE) hu
  have hv1 := QV.mono _ _ _ _ (le_boxes (nb := 3) hE) hv
  obtain ⟨b, hb⟩ : ∃ b, w.heap.size = b := ⟨_, rfl⟩
  have hbw : w.heap.size <= b := by omega
  rw [hb] at b0 b1 b2 hz hXW hu1 hv1
  have hEd : Ext W W.drew := (ExtX.refl W).drew
  have hXd : HX (hidB X b 3) W.drew := hXW
  have hud : QV (mk (hidB X b 3) W.drew) (.agg #[.bool s1, .slice a1 n1 c1, .slice d1 k1 e1]) x := hu1
  have hvd : QV (mk (hidB X b 3) W.drew) (.agg #[.bool s2, .slice a2 n2 c2, .slice d2 k2 e2]) y := hv1
  have k00 := b0.cell 0 rfl
  have k01 := b0.cell 1 rfl
  have k02 := b0.cell 2 rfl
  have k10 := b1.cell 0 rfl
  have k11 := b1.cell 1 rfl
  have k12 := b1.cell 2 rfl
  clear hu hv
  obtain ⟨ec, hec'⟩ : ∃ ec : Int, e5 (decide (y = 0)) = ec := ⟨_, rfl⟩
  rw [hec']
  replace hec' := hid hec'
  go_enter Tryz.func182, Tryz.ntmps182
  go_upto_region 1 with (fail)
  go_cut [] from 6 to 9 (fun wx => ∃ s3 a3 n3 c3 d3 k3 e3 s4 a4 n4 c4 d4 k4 e4, Bx wx b #[.bool s3, .slice a3 n3 c3, .slice d3 k3 e3] 38 /\ Bx wx (b + 1) #[.bool s4, .slice a4 n4 c4, .slice d4 k4 e4] 38 /\ Bx wx (b + 1 + 1) #[.bool false, .slice none 0 0, .slice none 0 0] 38 /\ QC (mk (hidB X b 3) wx) (.agg #[.bool s3, .slice a3 n3 c3, .slice d3 k3 e3]) x /\ QC (mk (hidB X b 3) wx) (.agg #[.bool s4, .slice a4 n4 c4, .slice d4 k4 e4]) y /\ Ext w wx)
  case first =>
    go_region_with (first | (go_at_call 141; (with_reducible refine (qvalue (hidB X b 3) W.drew _ x hXd hud).mono ?_); rintro ee w5 ⟨hE5, u5, rfl, hq5⟩; obtain ⟨s5, a5, n5, c5, d5, k5, e5, rfl⟩ := hq5.shape; have bb0 := b0.ext0 (hEd.trans hE5); have bb1 := b1.ext0 (hEd.trans hE5); have e00 := bb0.cell 0 rfl; have e01 := bb0.cell 1 rfl; have e02 := bb0.cell 2 rfl; have e10 := bb1.cell 0 rfl; have e11 := bb1.cell 1 rfl; have e12 := bb1.cell 2 rfl) | (go_at_call 141; (with_reducible refine (qvalue (hidB X b 3) w5 _ y (HX.ext hXd hE5) (mkx QV.mono hvd hE5)).mono ?_); rintro ee w6 ⟨hE6, u6, rfl, hq6⟩; obtain ⟨s6, a6, n6, c6, d6, k6, e6, rfl⟩ := hq6.shape; have bb2 := bb0.ext0 hE6; have bb3 := bb1.ext0 hE6; have g00 := bb2.cell 0 rfl; have g01 := bb2.cell 1 rfl; have g02 := bb2.cell 2 rfl; have g10 := bb3.cell 0 rfl; have g11 := bb3.cell 1 rfl; have g12 := bb3.cell 2 rfl; have fr0 := bb2.frozen 0; have fr1 := bb2.frozen 1; have fr4 := bb2.frozen 2; have fr2 := bb3.frozen 0; have fr3 := bb3.frozen 1; have fr5 := bb3.frozen 2))
    all_goals
      obtain ⟨wf, hwf, q0, q1, q2, q3, q4⟩ := two_stores3 (X := X) (nb := 3) bb2 bb3 (hE.trans ((hEd.trans hE5).trans hE6)) hbw (by omega) (.bool s5) (.slice a5 n5 c5) (.slice d5 k5 e5) (.bool s6) (.slice a6 n6 c6) (.slice d6 k6 e6)
      rw [hwf]
      have hfx : QC (mk (hidB X b 3) wf) (.agg #[.bool s5, .slice a5 n5 c5, .slice d5 k5 e5]) x := QC.mono _ _ _ _ q4 (mkx QC.mono hq5 hE6)
      have hfy : QC (mk (hidB X b 3) wf) (.agg #[.bool s6, .slice a6 n6 c6, .slice d6 k6 e6]) y := QC.mono _ _ _ _ q4 hq6
      have q5 := q2 (b + 1 + 1) _ _ (by omega) (by omega) ((b2.ext0 (hEd.trans hE5)).ext0 hE6)
      clear e00 e01 e02 e10 e11 e12 g00 g01 g02 g10 g11 g12 fr0 fr1 fr2 fr3 fr4 fr5 k00 k01 k02 k10 k11 k12 hwf
      go_wp2_with fail
      go_meet
      exact ⟨_, _, _, _, _, _, _, _, _, _, _, _, _, _, q0, q1, q5, hfx, hfy, q3⟩
  case rest =>
    clear k00 k01 k02 k10 k11 k12 b0 b1 b2 hu1 hv1 hud hvd hXd hEd hW
    obtain ⟨s3, a3, n3, c3, d3, k3, e3, s4, a4, n4, c4, d4, k4, e4, b0, b1, b2, hx, hy, hE1⟩ := hcut
    have hzz : w.heap.size + 3 <= wc.heap.size := by have := b2.lt; omega
    obtain ⟨hxz, hxm, hxdn⟩ := hx.num
    obtain ⟨hyz, hym, hydn⟩ := hy.num
    have hXc : HX (hidB X b 3) wc := hX.boxes' hE1 (by have := hzz; omega) hzz
    have k00 := b0.cell 0 rfl
    have k01 := b0.cell 1 rfl
    have k02 := b0.cell 2 rfl
    have k10 := b1.cell 0 rfl
    have k11 := b1.cell 1 rfl
    have k12 := b1.cell 2 rfl
    have hEd : Ext wc wc.drew := (ExtX.refl wc).drew
    have hXd : HX (hidB X b 3) wc.drew := hXc
    have hxd : QC (mk (hidB X b 3) wc.drew) (.agg #[.bool s3, .slice a3 n3 c3, .slice d3 k3 e3]) x := hx
    have hyd : QC (mk (hidB X b 3) wc.drew) (.agg #[.bool s4, .slice a4 n4 c4, .slice d4 k4 e4]) y := hy
    have hxzd : ZC (mk (hidB X b 3) wc.drew) (.agg #[.bool s3, .slice a3 n3 c3]) x.num := hxz
    have hyzd : ZC (mk (hidB X b 3) wc.drew) (.agg #[.bool s4, .slice a4 n4 c4]) y.num := hyz
    have bxn : lg x.num.natAbs <= 549755813888 := Nat.le_trans (Nat.le_trans (hq_num x) hlx.out) (by omega)
    have byn : lg y.num.natAbs <= 549755813888 := Nat.le_trans (Nat.le_trans (hq_num y) hly.out) (by omega)
    have bxd : lg x.den <= 549755813888 := Nat.le_trans (Nat.le_trans (hq_den x) hlx.out) (by omega)
    have byd : lg y.den <= 549755813888 := Nat.le_trans (Nat.le_trans (hq_den y) hly.out) (by omega)
    have bp1 : lg (x.num * (y.den : Int)).natAbs <= 274877906944 := by rw [Int.natAbs_mul, Int.natAbs_natCast]; have := lg_mul x.num.natAbs y.den; have := hq_num x; have := hq_den y; have := hlx.out; have := hly.out; omega
    have bp2 : lg (y.num * (x.den : Int)).natAbs <= 274877906944 := by rw [Int.natAbs_mul, Int.natAbs_natCast]; have := lg_mul y.num.natAbs x.den; have := hq_num y; have := hq_den x; have := hlx.out; have := hly.out; omega
    have bdd : lg (x.den * y.den) <= 274877906944 := by have := lg_mul x.den y.den; have := hq_den x; have := hq_den y; have := hlx.out; have := hly.out; omega
    have bnn : lg (x.num * y.num).natAbs <= 274877906944 := by rw [Int.natAbs_mul]; have := lg_mul x.num.natAbs y.num.natAbs; have := hq_num x; have := hq_num y; have := hlx.out; have := hly.out; omega
    have bd0 : 0 < x.den * y.den := Nat.mul_pos x.den_pos y.den_pos
    have hB := hid (And.intro b0 b1)
    have hS : Hid (∀ W', Ext wc.drew W' -> W'.cell? ⟨b, 0, none⟩ = some (.bool s3) /\ W'.cell? ⟨b, 1, none⟩ = some (.slice a3 n3 c3) /\ W'.cell? ⟨b, 2, none⟩ = some (.slice d3 k3 e3) /\ W'.cell? ⟨b + 1, 0, none⟩ = some (.bool s4) /\ W'.cell? ⟨b + 1, 1, none⟩ = some (.slice a4 n4 c4) /\ W'.cell? ⟨b + 1, 2, none⟩ = some (.slice d4 k4 e4)) :=
      hid fun W' h => ⟨(b0.ext0 (hEd.trans h)).cell 0 rfl, (b0.ext0 (hEd.trans h)).cell 1 rfl, (b0.ext0 (hEd.trans h)).cell 2 rfl, (b1.ext0 (hEd.trans h)).cell 0 rfl, (b1.ext0 (hEd.trans h)).cell 1 rfl, (b1.ext0 (hEd.trans h)).cell 2 rfl⟩
    have hfin : Hid (((x.num * (y.den : Int) : Int) : Rat) / ((y.num * (x.den : Int) : Int) : Rat) = x / y) := hid (div_eq x y)
    have hfe : Hid (e5 (decide (y.num * (x.den : Int) = 0)) = ec) := hid (by rw [<- hec'.out]; simp only [div_zero])
    go_wp2_with fail
    go_region_held3 (fun w' => w'.cell? ⟨b, 0, none⟩ = some (.bool s3) /\ w'.cell? ⟨b, 1, none⟩ = some (.slice a3 n3 c3) /\ w'.cell? ⟨b, 2, none⟩ = some (.slice d3 k3 e3) /\ w'.cell? ⟨b + 1, 0, none⟩ = some (.bool s4) /\ w'.cell? ⟨b + 1, 1, none⟩ = some (.slice a4 n4 c4) /\ w'.cell? ⟨b + 1, 2, none⟩ = some (.slice d4 k4 e4))
      (first | exact hS.out _ t1 | exact hS.out _ t2 | exact hS.out _ t3 | exact hS.out _ t4 | exact hS.out _ t5 | exact ⟨((hB.out.1.ext0 (hEd.trans t5)).ext (bb2.set3 _ _ _).2 (ob_other (by omega))).cell 0 rfl, ((hB.out.1.ext0 (hEd.trans t5)).ext (bb2.set3 _ _ _).2 (ob_other (by omega))).cell 1 rfl, ((hB.out.1.ext0 (hEd.trans t5)).ext (bb2.set3 _ _ _).2 (ob_other (by omega))).cell 2 rfl, ((hB.out.2.ext0 (hEd.trans t5)).ext (bb2.set3 _ _ _).2 (ob_other (by omega))).cell 0 rfl, ((hB.out.2.ext0 (hEd.trans t5)).ext (bb2.set3 _ _ _).2 (ob_other (by omega))).cell 1 rfl, ((hB.out.2.ext0 (hEd.trans t5)).ext (bb2.set3 _ _ _).2 (ob_other (by omega))).cell 2 rfl⟩ | go_keep)
      (first | (go_at_call 145; (with_reducible refine (qden (hidB X b 3) wc.drew _ y hXd hyd).mono ?_); rintro ee w5 ⟨t1, u5, rfl, hu5⟩; have hX5 := HX.ext hXd t1; have hx5 := mkx ZC.mono hxzd t1) | (go_at_call 144; (with_reducible refine (qtimes (hidB X b 3) w5 _ _ x.num y.den hX5 hx5 hu5 bxn byd).mono ?_); rintro ee w6 ⟨hE6, u6, rfl, hu6⟩; have t2 := t1.trans hE6; have hX6 := HX.ext hXd t2; have hx6 := mkx QC.mono hxd t2) | (go_at_call 145; (with_reducible refine (qden (hidB X b 3) w6 _ x hX6 hx6).mono ?_); rintro ee w7 ⟨hE7, u7, rfl, hu7⟩; have t3 := t2.trans hE7; have hX7 := HX.ext hXd t3; have hy7 := mkx ZC.mono hyzd t3) | (go_at_call 144; (with_reducible refine (qtimes (hidB X b 3) w7 _ _ y.num x.den hX7 hy7 hu7 byn bxd).mono ?_); rintro ee w8 ⟨hE8, u8, rfl, hu8⟩; have t4 := t3.trans hE8; have hX8 := HX.ext hXd t4; have hz6 := mkx ZC.mono hu6 (hE7.trans hE8)) | (go_at_call 231; (with_reducible refine (qmake (hidB X b 3) w8 _ _ _ _ hX8 hz6 hu8 (Nat.le_trans bp1 (by decide)) (Nat.le_trans bp2 (by decide))).mono ?_); rintro ee w13 ⟨hE13, u13, rfl, hu13⟩; obtain ⟨s13, a13, n13, c13, d13, k13, e13, rfl⟩ := hu13.shape; have t5 := t4.trans hE13; have bb2 := b2.ext0 (hEd.trans t5); have g0 := bb2.cell 0 rfl; have g1 := bb2.cell 1 rfl; have g2 := bb2.cell 2 rfl; have f0 := bb2.frozen 0; have f1 := bb2.frozen 1; have f2 := bb2.frozen 2))
    obtain ⟨r1, r2⟩ := bb2.set3 (.bool s13) (.slice a13 n13 c13) (.slice d13 k13 e13)
    have h7 := QC.mono _ _ _ _ le_unbox (QC.mono _ _ _ _ (le_store r2 (by omega) (by omega)) hu13)
    rw [hfin.out] at h7
    have hEf : Ext w _ := ExtX.box (hE1.trans (hEd.trans t5)) r2 (by omega)
    clear g0 g1 g2 f0 f1 f2 k00 k01 k02 k10 k11 k12 hS hB
    go_wp2_with fail
    exact bodyPost_ret (results_box2 rfl rfl stRat r1 rfl) rfl ⟨hEf, _, by rw [<- hfe.out]; rfl, h7⟩
end Go.Proofs.YtgimdkjgaemcbaaGreat
namespace Go.Proofs.YtgimdkjgaemcbaaGreat
open Go.RowKit Go.Rep Go.Lim
theorem rqone (X : Nat -> Bool) (w : World) (u : Value) (n : Nat) (hu : NC (mk X w) u n) (hn : lg n <= 1099511627776) : Calls Tryz.prog 149 #[u] w fun e w' => w = w' /\ e = .returned (.bool (decide (n = 1))) := by
  obtain ⟨ao, ca, a, rfl, hca, hcan, hsa⟩ := hu
  have hal := hcan.len
  by_cases h1 : a.length = 1
  · have hk : 0 < a.length := by omega
    have hcell := hsa.nat 0 hk
    have hh := hsa.hd
    obtain ⟨x, rfl⟩ : ∃ x, a = [x] := by
      match a, h1 with
      | [x], _ => exact ⟨x, rfl⟩
    have hnx : n = x := by have := hcan.2.2; simp [nv] at this; omega
    obtain rfl := hnx
    simp only [List.length_singleton, List.getElem_cons_zero] at hcell hca hh hk |-
    by_cases h2 : n = 1
    · have hI : ((n : Int) == 1) = true := by rw [h2]; rfl
      have hf : Hid (decide (n = 1) = true) := hid (decide_eq_true h2)
      clear h2 h1 hcan hsa hal
      go_enter Tryz.func149, Tryz.ntmps149
      go_wp2_with (with_reducible refine up_ix1 slU32 (by omega) (by assumption) ?_)
      go_ret
      exact ⟨rfl, ret_bool hf.out.symm⟩
    · have hI : ((n : Int) == 1) = false := beqF (by omega)
      have hf : Hid (decide (n = 1) = false) := hid (decide_eq_false h2)
      clear h2 h1 hcan hsa hal
      go_enter Tryz.func149, Tryz.ntmps149
      go_wp2_with (with_reducible refine up_ix1 slU32 (by omega) (by assumption) ?_)
      go_ret
      exact ⟨rfl, ret_bool hf.out.symm⟩
  · have hI : ((a.length : Int) == 1) = false := beqF (by omega)
    have hf : Hid (decide (n = 1) = false) := hid (decide_eq_false (by rintro rfl; rw [lg_one] at hal; exact h1 hal))
    have hal2 : a.length <= 1099511627776 := by omega
    clear h1 hal hn
    go_enter Tryz.func149, Tryz.ntmps149
    go_wp2_with (with_reducible refine up_ix1 slU32 (by omega) (by assumption) ?_)
    go_ret
    exact ⟨rfl, ret_bool hf.out.symm⟩
set_option maxRecDepth 100000 in
theorem rqvalid (X : Nat -> Bool) (w : World) (s : Bool) (ao bo : Option Addr) (c e : Nat) (m d : List Nat) (hX : HX X w) (hm : Sl (NatIn .u32) 1 (mk X w) ao m) (hd : Sl (NatIn .u32) 1 (mk X w) bo d) (hml : m.length <= 68719476736) (hdl : d.length <= 68719476736) (hmd : Dig m) (hdd : Dig d) (hmc : m.length <= c) (hdc : d.length <= e) :
    Calls Tryz.prog 154 #[.agg #[.bool s, .slice ao m.length c, .slice bo d.length e]] w (BOut w (validQ s m d)) := by
  obtain ⟨W, hW, hE, b0, hz⟩ := boxes1 w #[.bool s, .slice ao m.length c, .slice bo d.length e] 38
  have hXW : HX X W := hX.ext hE
  have hmW := hm.mono (NatIn.mono _) (mk_ext hE)
  have hdW := hd.mono (NatIn.mono _) (mk_ext hE)
  obtain ⟨b, hb⟩ : ∃ b, w.heap.size = b := ⟨_, rfl⟩
  rw [hb] at b0 hz
  have k00 := b0.cell 0 rfl
  have k01 := b0.cell 1 rfl
  have k02 := b0.cell 2 rfl
  have hdef : Hid (validQ s m d = (validZ s m && validL d && (decide (d.length = 0) || (decide (0 < m.length) && !(nv d == 1) && (Nat.gcd (nv m) (nv d) == 1))))) := hid rfl
  clear hX hm hd hz
  cases hv : validZ s m
  · have hf : Hid (validQ s m d = false) := hid (by rw [hdef.out, hv]; rfl)
    have hv' := hid hv
    clear hv hdef
    go_enter Tryz.func154, Tryz.ntmps154
    go_wp2_with fail
    refine (rivalid X W s ao c m hmW (by omega)).mono ?_
    rintro e w1 ⟨hE1, rfl⟩
    rw [hv'.out]
    clear k00 k01 k02
    go_wp2_with fail
    go_ret
    exact ⟨hE.trans hE1, ret_bool hf.out.symm⟩
  · cases hl : validL d
    · have hf : Hid (validQ s m d = false) := hid (by rw [hdef.out, hv, hl]; rfl)
      have hv' := hid hv
      have hl' := hid hl
      clear hv hdef hl
      go_enter Tryz.func154, Tryz.ntmps154
      go_wp2_with fail
      refine (rivalid X W s ao c m hmW (by omega)).mono ?_
      rintro e w1 ⟨hE1, rfl⟩
      rw [hv'.out]
      have j02 := (b0.ext0 hE1).cell 2 rfl
      have hd1 := hdW.mono (NatIn.mono _) (mk_ext hE1)
      clear k00 k01 k02
      go_wp2_with fail
      refine (rvalid_any X _ _ _ _ hd1 (by omega)).mono ?_
      rintro e w2 ⟨rfl, rfl⟩
      rw [hl'.out]
      clear j02
      go_wp2_with fail
      go_ret
      exact ⟨hE.trans hE1, ret_bool hf.out.symm⟩
    · have hf : Hid (validQ s m d = (decide (d.length = 0) || (decide (0 < m.length) && !(nv d == 1) && (Nat.gcd (nv m) (nv d) == 1)))) := hid (by rw [hdef.out, hv, hl]; rfl)
      have hv' := hid hv
      have hl' := hid hl
      have hmv : validL m = true := by unfold validZ at hv; simp at hv; exact hv.1
      have hcm := hid (show Canon m (nv m) from ⟨hmd, hmv, rfl⟩)
      have hcd := hid (show Canon d (nv d) from ⟨hdd, hl, rfl⟩)
      have hln := hid hcd.out.len
      have hln' := hid hcm.out.len
      clear hv hdef hl hmv
      go_enter Tryz.func154, Tryz.ntmps154
      go_wp2_with fail
      refine (rivalid X W s ao c m hmW (by omega)).mono ?_
      rintro e' w1 ⟨hE1, rfl⟩
      rw [hv'.out]
      have b1 := b0.ext0 hE1
      have j02 := b1.cell 2 rfl
      have j01 := b1.cell 1 rfl
      have hd1 := hdW.mono (NatIn.mono _) (mk_ext hE1)
      have hm1 := hmW.mono (NatIn.mono _) (mk_ext hE1)
      have hX1 := hXW.ext hE1
      have hmn : NC (mk X w1) (.slice ao m.length c) (nv m) := ⟨ao, c, m, rfl, hmc, hcm.out, hm1⟩
      have hdn : NC (mk X w1) (.slice bo d.length e) (nv d) := ⟨bo, e, d, rfl, hdc, hcd.out, hd1⟩
      clear k00 k01 k02
      go_wp2_with fail
      refine (rvalid_any X _ _ _ _ hd1 (by omega)).mono ?_
      rintro e' w2 ⟨rfl, rfl⟩
      rw [hl'.out]
      go_wp2_with fail
      refine (rqone X _ _ _ hdn (by rw [<- hln.out]; omega)).mono ?_
      rintro e' w3 ⟨rfl, rfl⟩
      by_cases h1 : nv d = 1
      · have hf2 : Hid (validQ s m d = false) := hid (by
          have h5 : d.length ≠ 0 := by rw [hln.out, h1, lg_one]; decide
          rw [hf.out, h1, decide_eq_false h5]; simp)
        rw [decide_eq_true h1]
        clear h1 hf
        go_wp2_with fail
        go_ret
        exact ⟨hE.trans hE1, ret_bool hf2.out.symm⟩
      · rw [decide_eq_false h1]
        by_cases h0 : d.length = 0
        · have hf2 : Hid (validQ s m d = true) := hid (by rw [hf.out, decide_eq_true h0]; rfl)
          have hdI : ((d.length : Int) == 0) = true := by rw [h0]; rfl
          clear h0 h1 hf
          go_wp2_with fail
          go_ret
          exact ⟨hE.trans hE1, ret_bool hf2.out.symm⟩
        · have hdI : ((d.length : Int) == 0) = false := beqF (by omega)
          by_cases hm0 : m.length = 0
          · have hf2 : Hid (validQ s m d = false) := hid (by rw [hf.out, decide_eq_false h0, decide_eq_false (by omega)]; rfl)
            have hmI : ¬ ((0 : Int) < (m.length : Int)) := by omega
            clear h0 h1 hf hm0
            go_wp2_with fail
            go_ret
            exact ⟨hE.trans hE1, ret_bool hf2.out.symm⟩
          · have hmI : (0 : Int) < (m.length : Int) := by omega
            have hf2 : Hid (validQ s m d = decide (Nat.gcd (nv m) (nv d) = 1)) := hid (by
              rw [hf.out, decide_eq_false h0, decide_eq_true (by omega), Bool.eq_iff_iff]; simp [h1])
            have hgl : Hid (lg (Nat.gcd (nv m) (nv d)) <= 1099511627776) := hid (by
              have h2 : Nat.gcd (nv m) (nv d) <= nv d := Nat.gcd_le_right _ (by
                rcases Nat.eq_zero_or_pos (nv d) with h3 | h3
                · exfalso; apply h0; rw [hln.out, h3]; rfl
                · exact h3)
              refine Nat.le_trans (lg_mono h2) ?_
              rw [<- hln.out]; omega)
            clear h0 h1 hf hm0
            go_wp2_with fail
            refine (rngcd X _ _ _ _ _ hX1 (hmn.nv (by rw [<- hln'.out]; omega)) (hdn.nv (by rw [<- hln.out]; omega)) (by rw [<- hln'.out]; omega) (by rw [<- hln.out]; omega)).mono ?_
            rintro e7 w7 ⟨hE7, u7, rfl, hu7⟩
            clear j01 j02
            go_wp2_with fail
            refine (rqone X _ _ _ hu7 hgl.out).mono ?_
            rintro e' w3 ⟨rfl, rfl⟩
            rw [<- hf2.out]
            go_wp2_with fail
            go_ret
            exact ⟨hE.trans (hE1.trans hE7), rfl⟩
end Go.Proofs.YtgimdkjgaemcbaaGreat
namespace Go.Proofs.YtgimdkjgaemcbaaGreat
open Go.RowKit Go.Rep Go.Lim
theorem _root_.Go.Rep.NC.zc {h : Mem} {ao : Option Addr} {n c k : Nat} (hu : NC h (.slice ao n c) k) : ZC h (.agg #[.bool false, .slice ao n c]) (k : Int) := by
  obtain ⟨_, _, l, heq, b1, b2, b3⟩ := hu
  simp only [Value.slice.injEq] at heq
  obtain ⟨rfl, rfl, rfl⟩ := heq
  exact ⟨_, _, _, l, rfl, b1, ⟨(decide_eq_false (by omega)).symm, by rw [Int.natAbs_natCast]; exact b2⟩, b3⟩
set_option maxRecDepth 100000 in
theorem rqtake (X : Nat -> Bool) (w : World) (u : Value) (q : Rat) (hX : HX X w) (hu : QV (mk X w) u q) : Calls Tryz.prog 85 #[u] w (ROut X w QC q) := by
  have hlx := hid hu.hq
  obtain ⟨s, ao, c, m, bo, e, d, rfl, h1, h2, h3, h4, h5, h6, h7, h8, rfl⟩ := hu
  obtain ⟨W, hW, hE, b0, b1, hz⟩ := boxes2 w #[.bool s, .slice ao m.length c, .slice bo d.length e] #[.bool false, .slice none 0 0, .slice none 0 0] 38 38
  have hXW : HX (hidB X w.heap.size 2) W := hX.boxes hz
  have hs1 : Sl (NatIn .u32) 1 (mk (hidB X w.heap.size 2) W) ao m := h7.mono (NatIn.mono _) (le_boxes hE)
  have hs2 : Sl (NatIn .u32) 1 (mk (hidB X w.heap.size 2) W) bo d := h8.mono (NatIn.mono _) (le_boxes hE)
  obtain ⟨b, hb⟩ : ∃ b, w.heap.size = b := ⟨_, rfl⟩
  have hbw : w.heap.size <= b := by omega
  rw [hb] at b0 b1 hz hs1 hs2 hXW
  have c0 := b0.cell 0 rfl
  have c1 := b0.cell 1 rfl
  have c2 := b0.cell 2 rfl
  cases hv : validQ s m d
  · have hz0 := hid (qval_invalid hv)
    have hv' := hid hv
    clear hv hlx
    go_enter Tryz.func85, Tryz.ntmps85
    go_wp2_with fail
    refine (rqvalid (hidB X b 2) W s ao bo c e m d hXW hs1 hs2 h5 h6 h3 h4 h1 h2).mono ?_
    rintro e1 w1 ⟨hE1, rfl⟩
    rw [hv'.out]
    have b1' := b1.ext0 hE1
    clear c0 c1 c2
    go_wp2_with ((with_reducible show wpList _ _ _ (⟨_, .store _ _ _, _, _, _, _⟩ :: _) _ _); refine st_storeBox stRat rfl rfl b1' rfl rfl (one3 _ _ _ _ _ _ _) ?_; intro w2 b2 hE2)
    exact bodyPost_ret (results_box rfl rfl stRat b2 rfl) rfl ⟨ExtX.box (hE.trans hE1) hE2 (by omega), _, rfl, by rw [hz0.out]; exact QC.zero _⟩
  · have hv' := hid hv
    have hcq := CanQ.of_valid h3 h4 hv
    have hx : QC (mk (hidB X b 2) W) (.agg #[.bool s, .slice ao m.length c, .slice bo d.length e]) (qval s m d) := ⟨s, ao, c, m, bo, e, d, rfl, h1, h2, hcq, hs1, hs2⟩
    obtain ⟨q, hq⟩ : ∃ q, qval s m d = q := ⟨_, rfl⟩
    rw [hq] at hx hlx |-
    clear hv hcq hq
    go_enter Tryz.func85, Tryz.ntmps85
    go_wp2_with fail
    refine (rqvalid (hidB X b 2) W s ao bo c e m d hXW hs1 hs2 h5 h6 h3 h4 h1 h2).mono ?_
    rintro e1 w7 ⟨hE1, rfl⟩
    rw [hv'.out]
    have r1 := b0.ext0 hE1
    have bb3 := b1.ext0 hE1
    have hE7 := hE.trans hE1
    have hx7 := mkx QC.mono hx hE1
    have hX7 := hXW.ext hE1
    clear c0 c1 c2
    obtain ⟨hxz, hxm, hxdn⟩ := hx7.num
    have hEd : Ext w7 w7.drew := (ExtX.refl w7).drew
    have hXd : HX (hidB X b 2) w7.drew := hX7
    have hxzd : ZC (mk (hidB X b 2) w7.drew) (.agg #[.bool s, .slice ao m.length c]) q.num := hxz
    have hxdd : NC (mk (hidB X b 2) w7.drew) (.slice bo d.length e) (dn q) := hxdn
    have bxn : lg q.num.natAbs <= 549755813888 := Nat.le_trans (Nat.le_trans (hq_num q) hlx.out) (by omega)
    have bxd : lg (dn q) <= 549755813888 := Nat.le_trans (Nat.le_trans (dn_le q) hlx.out) (by omega)
    have hxv := hxzd.zv bxn
    have k00 := r1.cell 0 rfl
    have k01 := r1.cell 1 rfl
    have k02 := r1.cell 2 rfl
    have hS : Hid (∀ W', Ext w7.drew W' -> W'.cell? ⟨b, 0, none⟩ = some (.bool s) /\ W'.cell? ⟨b, 1, none⟩ = some (.slice ao m.length c) /\ W'.cell? ⟨b, 2, none⟩ = some (.slice bo d.length e)) :=
      hid fun W' h => ⟨(r1.ext0 (hEd.trans h)).cell 0 rfl, (r1.ext0 (hEd.trans h)).cell 1 rfl, (r1.ext0 (hEd.trans h)).cell 2 rfl⟩
    go_wp2_with fail
    go_region_held3 (fun w' => w'.cell? ⟨b, 0, none⟩ = some (.bool s) /\ w'.cell? ⟨b, 1, none⟩ = some (.slice ao m.length c) /\ w'.cell? ⟨b, 2, none⟩ = some (.slice bo d.length e))
      (first | exact hS.out _ t1 | exact hS.out _ t2 | exact ⟨((r1.ext0 (hEd.trans t2)).ext (bb2.set3 _ _ _).2 (ob_other (by omega))).cell 0 rfl, ((r1.ext0 (hEd.trans t2)).ext (bb2.set3 _ _ _).2 (ob_other (by omega))).cell 1 rfl, ((r1.ext0 (hEd.trans t2)).ext (bb2.set3 _ _ _).2 (ob_other (by omega))).cell 2 rfl⟩ | go_keep)
      (first | (go_at_call 153; (with_reducible refine (ritake (hidB X b 2) w7.drew _ _ hXd hxv).mono ?_); rintro ee w8 ⟨t1, u8, rfl, s8, a8, c8, l8, rfl, h81, h82, h83⟩; have hX8 := HX.ext hXd t1; have hm8 := (mkx NC.mono hxdd t1).nv (Nat.le_trans bxd (by decide))) | (go_at_call 155; (with_reducible refine (rntake hX8 hm8).mono ?_); rintro ee w9 ⟨hE9, u9, rfl, a9, c9, l9, rfl, h91, h92, h93⟩; have t2 := t1.trans hE9; have hh8 := Sl.mono (NatIn.mono _) (mk_ext hE9) h83; have bb2 := bb3.ext0 (hEd.trans t2); have g0 := bb2.cell 0 rfl; have g1 := bb2.cell 1 rfl; have g2 := bb2.cell 2 rfl; have f0 := bb2.frozen 0; have f1 := bb2.frozen 1; have f2 := bb2.frozen 2))
    obtain ⟨q1, q2⟩ := bb2.set3 (.bool s8) (.slice a8 l8.length c8) (.slice a9 l9.length c9)
    have hz : ZC (mk (hidB X b 2) w9) (.agg #[.bool s8, .slice a8 l8.length c8]) q.num := ⟨s8, a8, c8, l8, rfl, h81, h82, hh8⟩
    have hd : NC (mk (hidB X b 2) w9) (.slice a9 l9.length c9) (dn q) := ⟨a9, c9, l9, rfl, h91, h92, h93⟩
    have h7 := QC.mono _ _ _ _ le_unbox (QC.mono _ _ _ _ (le_store q2 (by omega) (by omega)) (QC.of hz hd))
    have hEf : Ext w _ := ExtX.box (hE7.trans (hEd.trans t2)) q2 (by omega)
    clear g0 g1 g2 f0 f1 f2 k00 k01 k02 hS
    go_wp2_with fail
    exact bodyPost_ret (results_box rfl rfl stRat q1 rfl) rfl ⟨hEf, _, rfl, h7⟩
set_option maxRecDepth 100000 in
theorem rqden (X : Nat -> Bool) (w : World) (u : Value) (q : Rat) (hX : HX X w) (hu : QC (mk X w) u q) (hq : hq q <= 549755813888) : Calls Tryz.prog 111 #[u] w (ROut X w ZC (q.den : Int)) := by
  obtain ⟨s, ao, n, c, bo, k, e, rfl⟩ := hu.shape
  obtain ⟨W, hW, hE, b0, b1, hz⟩ := boxes2 w #[.bool s, .slice ao n c, .slice bo k e] #[.bool false, .slice none 0 0] 38 36
  have hXW : HX (hidB X w.heap.size 2) W := hX.boxes hz
  have hd := NC.mono _ _ _ _ (le_boxes (nb := 2) hE) hu.num.2.2
  have hl := hd.len0
  rw [dn_zero] at hl
  obtain ⟨b, hb⟩ : ∃ b, w.heap.size = b := ⟨_, rfl⟩
  have hbw : w.heap.size <= b := by omega
  rw [hb] at b0 b1 hz hXW hd
  have k02 := b0.cell 2 rfl
  have hdv := hid (hd.nv (Nat.le_trans (Nat.le_trans (dn_le q) hq) (by decide)))
  by_cases h0 : k = 0
  · have hf := hid (hl.1 h0)
    subst h0
    have hE3 : Ext W (W.alloc (.cells #[.int .u32 ((1 : Nat) : Int)] 144)) := (ExtX.refl W).alloc _
    have hn1 := NC.lit hXW 1 144 (by omega) (by omega)
    have bb1 := b1.ext0 hE3
    rw [show W.heap.size = b + 2 by omega] at hn1
    clear hl hd hdv hu
    go_enter Tryz.func111, Tryz.ntmps111
    go_wp2_with ((with_reducible show wpList _ _ _ (⟨_, .store _ _ _, _, _, _, _⟩ :: _) _ _); refine st_storeBox stInt rfl rfl bb1 rfl rfl (one2 _ _ _ _) ?_; intro w7 r1 r2)
    have h7 := NC.mono _ _ _ _ le_unbox (NC.mono _ _ _ _ (le_store r2 (by omega) (by omega)) hn1)
    exact bodyPost_ret (results_box rfl rfl stInt r1 rfl) rfl ⟨ExtX.box (hE.trans hE3) r2 (by omega), _, rfl, by rw [hf.out]; exact NC.zc h7⟩
  · have hf : Hid (dn q = q.den) := hid (by unfold dn; rw [if_neg (fun h => h0 (hl.2 h))])
    have hI : ((k : Int) == 0) = false := beqF (by omega)
    clear hl h0 hu hd
    go_enter Tryz.func111, Tryz.ntmps111
    go_wp2_with fail
    refine (rntake hXW hdv.out).mono ?_
    rintro ee w5 ⟨hE5, u5, rfl, hu5⟩
    rw [hf.out] at hu5
    obtain ⟨a5, c5, l5, rfl, h51, h52, h53⟩ := hu5
    have bb1 := b1.ext0 hE5
    clear k02
    go_wp2_with ((with_reducible show wpList _ _ _ (⟨_, .store _ _ _, _, _, _, _⟩ :: _) _ _); refine st_storeBox stInt rfl rfl bb1 rfl rfl (one2 _ _ _ _) ?_; intro w7 r1 r2)
    have h7 := NC.mono _ _ _ _ le_unbox (NC.mono _ _ _ _ (le_store r2 (by omega) (by omega)) ⟨a5, c5, l5, rfl, h51, h52, h53⟩)
    exact bodyPost_ret (results_box rfl rfl stInt r1 rfl) rfl ⟨ExtX.box (hE.trans hE5) r2 (by omega), _, rfl, NC.zc h7⟩
end Go.Proofs.YtgimdkjgaemcbaaGreat
namespace Go.Proofs.YtgimdkjgaemcbaaGreat
open Go.RowKit Go.Rep Go.Lim
theorem take_snoc {α : Type} (l : List α) (i : Nat) (h : i < l.length) : l.take i ++ [l[i]] = l.take (i + 1) := by
  rw [List.take_add_one, List.getElem?_eq_getElem h]; rfl
theorem len_take {α : Type} {l : List α} {i : Nat} (h : i <= l.length) : (l.take i).length = i := by simp; omega
end Go.Proofs.YtgimdkjgaemcbaaGreat
namespace Go.Lin
open Go.Lim
end Go.Lin
namespace Go.Proofs.YtgimdkjgaemcbaaGreat
open Go.RowKit Go.Rep Go.Lim Go.Lin
end Go.Proofs.YtgimdkjgaemcbaaGreat
namespace Go.Lin
open Go.Lim
end Go.Lin
namespace Go.Proofs.YtgimdkjgaemcbaaGreat
open Go.RowKit Go.Rep Go.Lim
theorem over_low (z k : Int) (hk : 0 < k) : ((z : Rat) / (k : Rat)).num = z / (Nat.gcd z.natAbs k.natAbs : Nat) /\ (((z : Rat) / (k : Rat)).den : Int) = k / (Nat.gcd z.natAbs k.natAbs : Nat) := by
  have h := mk_pos z k hk
  have hk0 : k.natAbs ≠ 0 := by omega
  rw [<- h, Rat.num_mkRat, Rat.den_mkRat]
  rw [if_neg hk0, if_neg hk0, Nat.gcd_comm k.natAbs]
  refine ⟨rfl, ?_⟩
  rw [Int.natCast_ediv]
  congr 1
  omega
set_option maxRecDepth 100000 in
set_option maxHeartbeats 1600000 in
theorem rqover (X : Nat -> Bool) (w : World) (u v : Value) (x y : Int) (hX : HX X w) (hu : ZC (mk X w) u x) (hv : ZC (mk X w) v y) (hx : lg x.natAbs <= 274877906944) (hy : lg y.natAbs <= 274877906944) (hy0 : y ≠ 0) : Calls Tryz.prog 80 #[u, v] w (ROut X w QC ((x : Rat) / (y : Rat))) := by
  have hlx := hid hx
  have hly := hid hy
  obtain ⟨s1, a1, n1, c1, rfl⟩ := hu.shape
  obtain ⟨s2, a2, n2, c2, rfl⟩ := hv.shape
  obtain ⟨W, hW, hE, b0, b1, b2, hz⟩ := boxes3 w #[.bool s1, .slice a1 n1 c1] #[.bool s2, .slice a2 n2 c2] #[.bool false, .slice none 0 0, .slice none 0 0] 36 36 38
  have hXW : HX (hidB X w.heap.size 3) W := hX.boxes hz
  have hu1 := ZC.mono _ _ _ _ (le_boxes (nb := 3) hE) hu
  have hv1 := ZC.mono _ _ _ _ (le_boxes (nb := 3) hE) hv
  obtain ⟨b, hb⟩ : ∃ b, w.heap.size = b := ⟨_, rfl⟩
  have hbw : w.heap.size <= b := by omega
  rw [hb] at b0 b1 b2 hz hXW hu1 hv1
  have hvz := hv1.zv (Nat.le_trans hy (by decide))
  have huz := hu1.zv (Nat.le_trans hx (by decide))
  have k00 := b0.cell 0 rfl
  have k01 := b0.cell 1 rfl
  have k10 := b1.cell 0 rfl
  have k11 := b1.cell 1 rfl
  have h0 : 0 < y \/ y < 0 := by omega
  obtain ⟨q, hq'⟩ : ∃ q : Rat, (x : Rat) / (y : Rat) = q := ⟨_, rfl⟩
  rw [hq']
  clear hu hv hx hy
  go_enter Tryz.func80, Tryz.ntmps80
  go_wp2_with fail
  refine (risign (hidB X b 3) W _ _ hXW hvz).mono ?_
  rintro e w5 ⟨hE5, rfl⟩
  have bb0 := b0.ext0 hE5
  have bb1 := b1.ext0 hE5
  have bb2 := b2.ext0 hE5
  clear k00 k01 k10 k11
  rcases h0 with h0 | h0
  · have hI2 : decide (y.sign < 0) = false := by rw [Int.sign_eq_one_of_pos h0]; rfl
    have hk : Hid (0 < y) := hid h0
    generalize y.sign = sgy at *
    have hzn := mkx ZC.mono hu1 hE5
    have hzd := mkx ZC.mono hv1 hE5
    have hXs := hXW.ext hE5
    have hEs := hE.trans hE5
    clear h0 hy0
    generalize hsz : s1 = sz at *
    generalize haz : a1 = az at *
    generalize hnz : n1 = nz at *
    generalize hcz : c1 = cz at *
    generalize hsk : s2 = sk at *
    generalize hak : a2 = ak at *
    generalize hnk : n2 = nk at *
    generalize hck : c2 = ck at *
    generalize hwz : w5 = ws at *
    generalize hxz : x = z at *
    generalize hyk : y = k at *
    have bz0 := bb0
    have bz1 := bb1
    have bz2 := bb2
    have bzn := hlx
    have bzk := hly
    have hres := hid hq'
    clear hq'
    have k00 := bz0.cell 0 rfl
    have k01 := bz0.cell 1 rfl
    have k10 := bz1.cell 0 rfl
    have k11 := bz1.cell 1 rfl
    have hgp := hid (Nat.gcd_pos_of_pos_right z.natAbs (show 0 < k.natAbs by have := hk.out; omega))
    have hgz := hid (show ((Nat.gcd z.natAbs k.natAbs : Nat) : Int) ∣ z from Int.ofNat_dvd_left.2 (Nat.gcd_dvd_left _ _))
    have hgk := hid (show ((Nat.gcd z.natAbs k.natAbs : Nat) : Int) ∣ k from Int.ofNat_dvd_left.2 (Nat.gcd_dvd_right _ _))
    have hgl := hid (show lg (Nat.gcd z.natAbs k.natAbs) <= 274877906944 from Nat.le_trans (lg_mono (Nat.gcd_le_right _ (by have := hk.out; omega))) bzk.out)
    have hlow := hid (over_low z k hk.out)
    obtain ⟨g, hg⟩ : ∃ g, Nat.gcd z.natAbs k.natAbs = g := ⟨_, rfl⟩
    rw [hg] at hgp hgz hgk hgl hlow
    replace hg := hid hg
    go_wp2_with fail
    refine (rigcd (hidB X b 3) ws _ _ _ _ hXs (hzn.zv (Nat.le_trans bzn.out (by decide))) (hzd.zv (Nat.le_trans bzk.out (by decide))) bzn.out bzk.out).mono ?_
    rintro e6 w6 ⟨hE6, ug, rfl, hug⟩
    rw [hg.out] at hug
    obtain ⟨ag, cg, lgd, rfl, g1, g2, g3⟩ := hug
    have bg := Bx.new w6 #[.bool false, .slice none 0 0] 36
    have hXg := hXs.ext hE6
    clear k00 k01 k10 k11
    go_wp2_with ((with_reducible show wpList _ _ _ (⟨_, .store _ _ _, _, _, _, _⟩ :: _) _ _); refine st_storeBox stInt rfl rfl bg rfl rfl (one2 _ _ _ _) ?_; intro w7 r1 r2; have hE7 : Ext w6 w7 := ExtX.box ((ExtX.refl w6).alloc _) r2 (Nat.le_refl _); have t7 := hE6.trans hE7; have k00 := (bz0.ext0 t7).cell 0 rfl; have k01 := (bz0.ext0 t7).cell 1 rfl; have k50 := r1.cell 0 rfl; have k51 := r1.cell 1 rfl)
    have hX7 := (hXg.ext hE7)
    have hug7 : ZC (mk (hidB X b 3) w7) (.agg #[.bool false, .slice ag lgd.length cg]) (g : Int) := NC.zc (NC.mono _ _ _ _ (mk_ext hE7) ⟨ag, cg, lgd, rfl, g1, g2, g3⟩)
    have hz7 := mkx ZC.mono hzn t7
    have hgl2 : Hid (lg ((g : Int)).natAbs <= 274877906944) := hid (by rw [Int.natAbs_natCast]; exact hgl.out)
    have hgpI : Hid ((0 : Int) < (g : Int)) := hid (by have := hgp.out; omega)
    refine (ridiv (hidB X b 3) w7 _ _ z g hX7 (hz7.zv (Nat.le_trans bzn.out (by decide))) (hug7.zv (Nat.le_trans hgl2.out (by decide))) bzn.out hgl2.out hgpI.out hgz.out).mono ?_
    rintro e8 w8 ⟨hE8, up, sv, av, nv, cv, rfl, hup⟩
    obtain ⟨sp, ap, np, cp, rfl⟩ := hup.shape
    obtain ⟨W8, hW8, hEb8, bp, br, hz8⟩ := boxes2 w8 #[.bool false, .slice none 0 0] #[.bool false, .slice none 0 0] 36 36
    subst hW8
    clear k00 k01 k50 k51
    go_wp2_with ((with_reducible show wpList _ _ _ (⟨_, .store _ _ _, _, _, _, _⟩ :: _) _ _); first | (refine st_storeBox stInt rfl rfl bp rfl rfl (one2 _ _ _ _) ?_; intro w9 p1 p2; have br' := br.ext p2 (ob_other (by omega))) | (refine st_storeBox stInt rfl rfl br' rfl rfl (one2 _ _ _ _) ?_; intro w10 p3 p4; have hE10 : Ext w8 w10 := ExtX.box (ExtX.box hEb8 p2 (Nat.le_refl _)) p4 (by omega); have t10 := t7.trans (hE8.trans hE10); have k10 := (bz1.ext0 t10).cell 0 rfl; have k11 := (bz1.ext0 t10).cell 1 rfl; have r10 := r1.ext0 (hE8.trans hE10); have k50 := r10.cell 0 rfl; have k51 := r10.cell 1 rfl; have p10 := p1.ext p4 (ob_other (by omega))))
    have hup10 := mkx ZC.mono hup hE10
    have hX10 := (hX7.ext hE8).ext hE10
    have hk10 := mkx ZC.mono hzd t10
    have hug10 := mkx ZC.mono (mkx ZC.mono hug7 hE8) hE10
    refine (ridiv (hidB X b 3) w10 _ _ k g hX10 (hk10.zv (Nat.le_trans bzk.out (by decide))) (hug10.zv (Nat.le_trans hgl2.out (by decide))) bzk.out hgl2.out hgpI.out hgk.out).mono ?_
    rintro e11 w11 ⟨hE11, uq, sv2, av2, nv2, cv2, rfl, huq⟩
    obtain ⟨sq, aq, nq, cq, rfl⟩ := huq.shape
    obtain ⟨W11, hW11, hEb11, bq, br2, hz11⟩ := boxes2 w11 #[.bool false, .slice none 0 0] #[.bool false, .slice none 0 0] 36 36
    subst hW11
    clear k10 k11 k50 k51 br' br
    go_wp2_with ((with_reducible show wpList _ _ _ (⟨_, .store _ _ _, _, _, _, _⟩ :: _) _ _); first | (refine st_storeBox stInt rfl rfl bq rfl rfl (one2 _ _ _ _) ?_; intro w12 p5 p6; have br' := br2.ext p6 (ob_other (by omega))) | (refine st_storeBox stInt rfl rfl br' rfl rfl (one2 _ _ _ _) ?_; intro w13 p7 p8; have hE13 : Ext w11 w13 := ExtX.box (ExtX.box hEb11 p6 (Nat.le_refl _)) p8 (by omega); have t13 := t10.trans (hE11.trans hE13); have q13 := p5.ext p8 (ob_other (by omega)); have k90 := q13.cell 0 rfl; have k91 := q13.cell 1 rfl; have f90 := q13.frozen 0; have f91 := q13.frozen 1; have p13 := p10.ext0 (hE11.trans hE13); have k60 := p13.cell 0 rfl; have k61 := p13.cell 1 rfl))
    have huq13 := mkx ZC.mono huq hE13
    have hup13 := mkx ZC.mono (mkx ZC.mono hup10 hE11) hE13
    have hmq := huq13.mag
    have hkq : Hid (lg (k / (g : Int)).natAbs <= 1099511627776) := hid (by
      have h1 := hlow.out.2
      have : (k / (g : Int)).natAbs <= k.natAbs := by
        have := Int.natAbs_ediv_le_natAbs k (g : Int); exact this
      exact Nat.le_trans (lg_mono this) (Nat.le_trans bzk.out (by decide)))
    have bz13 := bz2.ext0 t13
    have hEs13 := hEs.trans t13
    refine (rqone _ _ _ _ hmq hkq.out).mono ?_
    rintro e14 w14 ⟨rfl, rfl⟩
    have hkg : Hid ((q.den : Int) = k / (g : Int)) := hid (by rw [<- hres.out]; exact hlow.out.2)
    have hzg : Hid (q.num = z / (g : Int)) := hid (by rw [<- hres.out]; exact hlow.out.1)
    by_cases h1 : (k / (g : Int)).natAbs = 1
    · have hd1 : Hid (dn q = 0) := hid ((dn_zero q).2 (by have := hkg.out; have := q.den_pos; omega))
      rw [decide_eq_true h1]
      clear h1
      go_upto_region 8 with (fail)
      obtain ⟨m1, m2⟩ := setCell_block q13 (.slice none 0 0) (i := 1) (by simp)
      obtain ⟨w14, hw14⟩ : ∃ w14, w13.setCell ⟨w11.heap.size, 1, none⟩ (.slice none 0 0) = w14 := ⟨_, rfl⟩
      rw [hw14] at m1 m2 |-
      have hE14 : Ext w11 w14 := ExtX.box hE13 m2 (Nat.le_refl _)
      have t14 := t10.trans (hE11.trans hE14)
      have bz14 := bz2.ext0 t14
      have p14 := p10.ext0 (hE11.trans hE14)
      clear k60 k61 k90 k91 f90 f91
      have k60 : w14.cell? ⟨w8.heap.size, 0, none⟩ = some (.bool sp) := p14.cell 0 rfl
      have k61 : w14.cell? ⟨w8.heap.size, 1, none⟩ = some (.slice ap np cp) := p14.cell 1 rfl
      have k91 : w14.cell? ⟨w11.heap.size, 1, none⟩ = some (.slice none 0 0) := m1.cell 1 rfl
      have hup14 := mkx ZC.mono (mkx ZC.mono hup10 hE11) hE14
      go_wp2_with ((with_reducible show wpList _ _ _ (⟨_, .store _ _ _, _, _, _, _⟩ :: _) _ _); refine st_storeBox stRat rfl rfl bz14 rfl rfl (one3 _ _ _ _ _ _ _) ?_; intro w15 r3 r4)
      have hfz : ZC (mk (hidB X b 3) w14) (.agg #[.bool sp, .slice ap np cp]) q.num := by rw [hzg.out]; exact hup14
      have hfd : NC (mk (hidB X b 3) w14) (.slice none 0 0) (dn q) := by rw [hd1.out]; exact NC.zero _
      have h7 := QC.mono _ _ _ _ le_unbox (QC.mono _ _ _ _ (le_store r4 (by omega) (by omega)) (QC.of hfz hfd))
      exact bodyPost_ret (results_box rfl rfl stRat r3 rfl) rfl ⟨ExtX.box (hEs.trans t14) r4 (by omega), _, rfl, h7⟩
    · have hd1 : Hid (dn q = (k / (g : Int)).natAbs) := hid (by
        have h2 := hkg.out
        unfold dn; rw [if_neg (by omega)]; omega)
      rw [decide_eq_false h1]
      clear h1
      go_wp2_with ((with_reducible show wpList _ _ _ (⟨_, .store _ _ _, _, _, _, _⟩ :: _) _ _); refine st_storeBox stRat rfl rfl bz13 rfl rfl (one3 _ _ _ _ _ _ _) ?_; intro w15 r3 r4)
      have hfz : ZC (mk (hidB X b 3) w13) (.agg #[.bool sp, .slice ap np cp]) q.num := by rw [hzg.out]; exact hup13
      have hfd : NC (mk (hidB X b 3) w13) (.slice aq nq cq) (dn q) := by rw [hd1.out]; exact hmq
      have h7 := QC.mono _ _ _ _ le_unbox (QC.mono _ _ _ _ (le_store r4 (by omega) (by omega)) (QC.of hfz hfd))
      exact bodyPost_ret (results_box rfl rfl stRat r3 rfl) rfl ⟨ExtX.box hEs13 r4 (by omega), _, rfl, h7⟩
  · have hI2 : decide (y.sign < 0) = true := by rw [Int.sign_eq_neg_one_of_neg h0]; rfl
    have hkn : Hid (0 < -y) := hid (by omega)
    generalize y.sign = sgy at *
    have hEd : Ext w5 w5.drew := (ExtX.refl w5).drew
    have hXd : HX (hidB X b 3) w5.drew := HX.ext (HX.ext hXW hE5) hEd
    have hud : ZV (mk (hidB X b 3) w5.drew) (.agg #[.bool s1, .slice a1 n1 c1]) x := mkx ZV.mono huz (hE5.trans hEd)
    have hvd : ZV (mk (hidB X b 3) w5.drew) (.agg #[.bool s2, .slice a2 n2 c2]) y := mkx ZV.mono hvz (hE5.trans hEd)
    have k00 := bb0.cell 0 rfl
    have k01 := bb0.cell 1 rfl
    have k10 := bb1.cell 0 rfl
    have k11 := bb1.cell 1 rfl
    have hres0 : Hid (((-x : Int) : Rat) / ((-y : Int) : Rat) = q) := hid (by
      rw [<- hq', Rat.intCast_neg, Rat.intCast_neg]; have : (y : Rat) ≠ 0 := by exact_mod_cast hy0
      grind)
    have bzn : Hid (lg (-x).natAbs <= 274877906944) := hid (by rw [Int.natAbs_neg]; exact hlx.out)
    have bzk : Hid (lg (-y).natAbs <= 274877906944) := hid (by rw [Int.natAbs_neg]; exact hly.out)
    clear h0 hy0 hq'
    go_upto_region 2 with (fail)
    go_region_with (first | (go_at_call 117; (with_reducible refine (rineg (hidB X b 3) w5.drew _ x hXd hud).mono ?_); rintro e w6 ⟨hE6, u6, rfl, s5, a5, c5, l5, rfl, h51, h52, h53⟩; have b60 := bb0.ext0 (hEd.trans hE6); have b61 := bb1.ext0 (hEd.trans hE6); have e00 := b60.cell 0 rfl; have e01 := b60.cell 1 rfl; have e10 := b61.cell 0 rfl; have e11 := b61.cell 1 rfl) | (go_at_call 117; (with_reducible refine (rineg (hidB X b 3) w6 _ y (HX.ext hXd hE6) (mkx ZV.mono hvd hE6)).mono ?_); rintro e w7 ⟨hE7, u7, rfl, s6, a6, c6, l6, rfl, h61, h62, h63⟩; have b70 := b60.ext0 hE7; have b71 := b61.ext0 hE7; have g00 := b70.cell 0 rfl; have g01 := b70.cell 1 rfl; have g10 := b71.cell 0 rfl; have g11 := b71.cell 1 rfl; have fr0 := b70.frozen 0; have fr1 := b70.frozen 1; have fr2 := b71.frozen 0; have fr3 := b71.frozen 1))
    all_goals
      obtain ⟨ws, hwf, bz0, bz1, qq2, hEs, q4⟩ := two_stores (X := X) (nb := 3) b70 b71 (hE.trans (hE5.trans ((hEd.trans hE6).trans hE7))) hbw (by omega) (.bool s5) (.slice a5 l5.length c5) (.bool s6) (.slice a6 l6.length c6)
      rw [hwf]
      have hzn : ZC (mk (hidB X b 3) ws) (.agg #[.bool s5, .slice a5 l5.length c5]) (-x) := ⟨s5, a5, c5, l5, rfl, h51, h52, (h53.mono (NatIn.mono _) (mk_ext hE7)).mono (NatIn.mono _) q4⟩
      have hzd : ZC (mk (hidB X b 3) ws) (.agg #[.bool s6, .slice a6 l6.length c6]) (-y) := ⟨s6, a6, c6, l6, rfl, h61, h62, h63.mono (NatIn.mono _) q4⟩
      have bz2 := qq2 (b + 1 + 1) _ _ (by omega) (by omega) (((bb2.ext0 hEd).ext0 hE6).ext0 hE7)
      have hzz : w.heap.size + 3 <= ws.heap.size := by have := bz2.lt; omega
      have hXs : HX (hidB X b 3) ws := hX.boxes' hEs (by have := hzz; omega) hzz
      clear e00 e01 e10 e11 g00 g01 g10 g11 fr0 fr1 fr2 fr3 k00 k01 k10 k11 hwf b60 b61 b70 b71 h51 h52 h53 h61 h62 h63
      have hres := hres0
      have hk := hkn
      generalize hsz : s5 = sz at *
      generalize haz : a5 = az at *
      generalize hnz : l5.length = nz at *
      generalize hcz : c5 = cz at *
      generalize hsk : s6 = sk at *
      generalize hak : a6 = ak at *
      generalize hnk : l6.length = nk at *
      generalize hck : c6 = ck at *
      generalize hxz : -x = z at *
      generalize hyk : -y = k at *
      have k00 := bz0.cell 0 rfl
      have k01 := bz0.cell 1 rfl
      have k10 := bz1.cell 0 rfl
      have k11 := bz1.cell 1 rfl
      have hgp := hid (Nat.gcd_pos_of_pos_right z.natAbs (show 0 < k.natAbs by have := hk.out; omega))
      have hgz := hid (show ((Nat.gcd z.natAbs k.natAbs : Nat) : Int) ∣ z from Int.ofNat_dvd_left.2 (Nat.gcd_dvd_left _ _))
      have hgk := hid (show ((Nat.gcd z.natAbs k.natAbs : Nat) : Int) ∣ k from Int.ofNat_dvd_left.2 (Nat.gcd_dvd_right _ _))
      have hgl := hid (show lg (Nat.gcd z.natAbs k.natAbs) <= 274877906944 from Nat.le_trans (lg_mono (Nat.gcd_le_right _ (by have := hk.out; omega))) bzk.out)
      have hlow := hid (over_low z k hk.out)
      obtain ⟨g, hg⟩ : ∃ g, Nat.gcd z.natAbs k.natAbs = g := ⟨_, rfl⟩
      rw [hg] at hgp hgz hgk hgl hlow
      replace hg := hid hg
      go_wp2_with fail
      refine (rigcd (hidB X b 3) ws _ _ _ _ hXs (hzn.zv (Nat.le_trans bzn.out (by decide))) (hzd.zv (Nat.le_trans bzk.out (by decide))) bzn.out bzk.out).mono ?_
      rintro e6 w6 ⟨hE6, ug, rfl, hug⟩
      rw [hg.out] at hug
      obtain ⟨ag, cg, lgd, rfl, g1, g2, g3⟩ := hug
      have bg := Bx.new w6 #[.bool false, .slice none 0 0] 36
      have hXg := hXs.ext hE6
      clear k00 k01 k10 k11
      go_wp2_with ((with_reducible show wpList _ _ _ (⟨_, .store _ _ _, _, _, _, _⟩ :: _) _ _); refine st_storeBox stInt rfl rfl bg rfl rfl (one2 _ _ _ _) ?_; intro w7 r1 r2; have hE7 : Ext w6 w7 := ExtX.box ((ExtX.refl w6).alloc _) r2 (Nat.le_refl _); have t7 := hE6.trans hE7; have k00 := (bz0.ext0 t7).cell 0 rfl; have k01 := (bz0.ext0 t7).cell 1 rfl; have k50 := r1.cell 0 rfl; have k51 := r1.cell 1 rfl)
      have hX7 := (hXg.ext hE7)
      have hug7 : ZC (mk (hidB X b 3) w7) (.agg #[.bool false, .slice ag lgd.length cg]) (g : Int) := NC.zc (NC.mono _ _ _ _ (mk_ext hE7) ⟨ag, cg, lgd, rfl, g1, g2, g3⟩)
      have hz7 := mkx ZC.mono hzn t7
      have hgl2 : Hid (lg ((g : Int)).natAbs <= 274877906944) := hid (by rw [Int.natAbs_natCast]; exact hgl.out)
      have hgpI : Hid ((0 : Int) < (g : Int)) := hid (by have := hgp.out; omega)
      refine (ridiv (hidB X b 3) w7 _ _ z g hX7 (hz7.zv (Nat.le_trans bzn.out (by decide))) (hug7.zv (Nat.le_trans hgl2.out (by decide))) bzn.out hgl2.out hgpI.out hgz.out).mono ?_
      rintro e8 w8 ⟨hE8, up, sv, av, nv, cv, rfl, hup⟩
      obtain ⟨sp, ap, np, cp, rfl⟩ := hup.shape
      obtain ⟨W8, hW8, hEb8, bp, br, hz8⟩ := boxes2 w8 #[.bool false, .slice none 0 0] #[.bool false, .slice none 0 0] 36 36
      subst hW8
      clear k00 k01 k50 k51
      go_wp2_with ((with_reducible show wpList _ _ _ (⟨_, .store _ _ _, _, _, _, _⟩ :: _) _ _); first | (refine st_storeBox stInt rfl rfl bp rfl rfl (one2 _ _ _ _) ?_; intro w9 p1 p2; have br' := br.ext p2 (ob_other (by omega))) | (refine st_storeBox stInt rfl rfl br' rfl rfl (one2 _ _ _ _) ?_; intro w10 p3 p4; have hE10 : Ext w8 w10 := ExtX.box (ExtX.box hEb8 p2 (Nat.le_refl _)) p4 (by omega); have t10 := t7.trans (hE8.trans hE10); have k10 := (bz1.ext0 t10).cell 0 rfl; have k11 := (bz1.ext0 t10).cell 1 rfl; have r10 := r1.ext0 (hE8.trans hE10); have k50 := r10.cell 0 rfl; have k51 := r10.cell 1 rfl; have p10 := p1.ext p4 (ob_other (by omega))))
      have hup10 := mkx ZC.mono hup hE10
      have hX10 := (hX7.ext hE8).ext hE10
      have hk10 := mkx ZC.mono hzd t10
      have hug10 := mkx ZC.mono (mkx ZC.mono hug7 hE8) hE10
      refine (ridiv (hidB X b 3) w10 _ _ k g hX10 (hk10.zv (Nat.le_trans bzk.out (by decide))) (hug10.zv (Nat.le_trans hgl2.out (by decide))) bzk.out hgl2.out hgpI.out hgk.out).mono ?_
      rintro e11 w11 ⟨hE11, uq, sv2, av2, nv2, cv2, rfl, huq⟩
      obtain ⟨sq, aq, nq, cq, rfl⟩ := huq.shape
      obtain ⟨W11, hW11, hEb11, bq, br2, hz11⟩ := boxes2 w11 #[.bool false, .slice none 0 0] #[.bool false, .slice none 0 0] 36 36
      subst hW11
      clear k10 k11 k50 k51 br' br
      go_wp2_with ((with_reducible show wpList _ _ _ (⟨_, .store _ _ _, _, _, _, _⟩ :: _) _ _); first | (refine st_storeBox stInt rfl rfl bq rfl rfl (one2 _ _ _ _) ?_; intro w12 p5 p6; have br' := br2.ext p6 (ob_other (by omega))) | (refine st_storeBox stInt rfl rfl br' rfl rfl (one2 _ _ _ _) ?_; intro w13 p7 p8; have hE13 : Ext w11 w13 := ExtX.box (ExtX.box hEb11 p6 (Nat.le_refl _)) p8 (by omega); have t13 := t10.trans (hE11.trans hE13); have q13 := p5.ext p8 (ob_other (by omega)); have k90 := q13.cell 0 rfl; have k91 := q13.cell 1 rfl; have f90 := q13.frozen 0; have f91 := q13.frozen 1; have p13 := p10.ext0 (hE11.trans hE13); have k60 := p13.cell 0 rfl; have k61 := p13.cell 1 rfl))
      have huq13 := mkx ZC.mono huq hE13
      have hup13 := mkx ZC.mono (mkx ZC.mono hup10 hE11) hE13
      have hmq := huq13.mag
      have hkq : Hid (lg (k / (g : Int)).natAbs <= 1099511627776) := hid (by
        have h1 := hlow.out.2
        have : (k / (g : Int)).natAbs <= k.natAbs := by
          have := Int.natAbs_ediv_le_natAbs k (g : Int); exact this
        exact Nat.le_trans (lg_mono this) (Nat.le_trans bzk.out (by decide)))
      have bz13 := bz2.ext0 t13
      have hEs13 := hEs.trans t13
      refine (rqone _ _ _ _ hmq hkq.out).mono ?_
      rintro e14 w14 ⟨rfl, rfl⟩
      have hkg : Hid ((q.den : Int) = k / (g : Int)) := hid (by rw [<- hres.out]; exact hlow.out.2)
      have hzg : Hid (q.num = z / (g : Int)) := hid (by rw [<- hres.out]; exact hlow.out.1)
      by_cases h1 : (k / (g : Int)).natAbs = 1
      · have hd1 : Hid (dn q = 0) := hid ((dn_zero q).2 (by have := hkg.out; have := q.den_pos; omega))
        rw [decide_eq_true h1]
        clear h1
        go_upto_region 8 with (fail)
        obtain ⟨m1, m2⟩ := setCell_block q13 (.slice none 0 0) (i := 1) (by simp)
        obtain ⟨w14, hw14⟩ : ∃ w14, w13.setCell ⟨w11.heap.size, 1, none⟩ (.slice none 0 0) = w14 := ⟨_, rfl⟩
        rw [hw14] at m1 m2 |-
        have hE14 : Ext w11 w14 := ExtX.box hE13 m2 (Nat.le_refl _)
        have t14 := t10.trans (hE11.trans hE14)
        have bz14 := bz2.ext0 t14
        have p14 := p10.ext0 (hE11.trans hE14)
        clear k60 k61 k90 k91 f90 f91
        have k60 : w14.cell? ⟨w8.heap.size, 0, none⟩ = some (.bool sp) := p14.cell 0 rfl
        have k61 : w14.cell? ⟨w8.heap.size, 1, none⟩ = some (.slice ap np cp) := p14.cell 1 rfl
        have k91 : w14.cell? ⟨w11.heap.size, 1, none⟩ = some (.slice none 0 0) := m1.cell 1 rfl
        have hup14 := mkx ZC.mono (mkx ZC.mono hup10 hE11) hE14
        go_wp2_with ((with_reducible show wpList _ _ _ (⟨_, .store _ _ _, _, _, _, _⟩ :: _) _ _); refine st_storeBox stRat rfl rfl bz14 rfl rfl (one3 _ _ _ _ _ _ _) ?_; intro w15 r3 r4)
        have hfz : ZC (mk (hidB X b 3) w14) (.agg #[.bool sp, .slice ap np cp]) q.num := by rw [hzg.out]; exact hup14
        have hfd : NC (mk (hidB X b 3) w14) (.slice none 0 0) (dn q) := by rw [hd1.out]; exact NC.zero _
        have h7 := QC.mono _ _ _ _ le_unbox (QC.mono _ _ _ _ (le_store r4 (by omega) (by omega)) (QC.of hfz hfd))
        exact bodyPost_ret (results_box rfl rfl stRat r3 rfl) rfl ⟨ExtX.box (hEs.trans t14) r4 (by omega), _, rfl, h7⟩
      · have hd1 : Hid (dn q = (k / (g : Int)).natAbs) := hid (by
          have h2 := hkg.out
          unfold dn; rw [if_neg (by omega)]; omega)
        rw [decide_eq_false h1]
        clear h1
        go_wp2_with ((with_reducible show wpList _ _ _ (⟨_, .store _ _ _, _, _, _, _⟩ :: _) _ _); refine st_storeBox stRat rfl rfl bz13 rfl rfl (one3 _ _ _ _ _ _ _) ?_; intro w15 r3 r4)
        have hfz : ZC (mk (hidB X b 3) w13) (.agg #[.bool sp, .slice ap np cp]) q.num := by rw [hzg.out]; exact hup13
        have hfd : NC (mk (hidB X b 3) w13) (.slice aq nq cq) (dn q) := by rw [hd1.out]; exact hmq
        have h7 := QC.mono _ _ _ _ le_unbox (QC.mono _ _ _ _ (le_store r4 (by omega) (by omega)) (QC.of hfz hfd))
        exact bodyPost_ret (results_box rfl rfl stRat r3 rfl) rfl ⟨ExtX.box hEs13 r4 (by omega), _, rfl, h7⟩
end Go.Proofs.YtgimdkjgaemcbaaGreat
namespace Go.Proofs.YtgimdkjgaemcbaaGreat
open Go.RowKit Go.Rep Go.Lim
theorem rqfrom (X : Nat -> Bool) (w : World) (v : Int) (hX : HX X w) (h1 : -9223372036854775808 <= v) (h2 : v <= 9223372036854775807) : Calls Tryz.prog 54 #[.int .i64 v] w (ROut X w QC v) := by
  obtain ⟨W, hW, hE, b0, hz⟩ := boxes1 w #[.bool false, .slice none 0 0, .slice none 0 0] 38
  have hXW : HX (hidB X w.heap.size 1) W := hX.boxes hz
  obtain ⟨b, hb⟩ : ∃ b, w.heap.size = b := ⟨_, rfl⟩
  have hbw : w.heap.size <= b := by omega
  rw [hb] at b0 hz hXW
  have h1' := hid h1
  have h2' := hid h2
  clear h1 h2
  go_enter Tryz.func54, Tryz.ntmps54
  go_wp2_with fail
  refine (rifrom (hidB X b 1) W v hXW h1'.out h2'.out).mono ?_
  rintro e1 w1 ⟨hE1, u1, rfl, s6, a6, c6, l6, rfl, h61, h62, h63⟩
  have b1' := b0.ext0 hE1
  have hcq := CanQ.ofInt h62
  go_wp2_with ((with_reducible show wpList _ _ _ (⟨_, .store _ _ _, _, _, _, _⟩ :: _) _ _); refine st_storeBox stRat rfl rfl b1' rfl rfl (one3 _ _ _ _ _ _ _) ?_; intro w7 r1 r2)
  have h7 := (h63.mono (NatIn.mono _) (le_store r2 (by omega) (by omega))).mono (NatIn.mono _) le_unbox
  exact bodyPost_ret (results_box rfl rfl stRat r1 rfl) rfl ⟨ExtX.box (hE.trans hE1) r2 (by omega), _, rfl, s6, a6, c6, l6, none, 0, [], rfl, h61, Nat.le_refl _, hcq, h7, Sl.nil _ _ _ _⟩
set_option maxRecDepth 100000 in
theorem rqsign (X : Nat -> Bool) (w : World) (u : Value) (x : Rat) (hX : HX X w) (hu : QV (mk X w) u x) : Calls Tryz.prog 21 #[u] w (IntOut w x.num.sign) := by
  have hlx := hid hu.hq
  obtain ⟨s1, a1, n1, c1, d1, k1, e1, rfl⟩ := hu.shape
  obtain ⟨W, hW, hE, b0, hz⟩ := boxes1 w #[.bool s1, .slice a1 n1 c1, .slice d1 k1 e1] 38
  have hXW : HX X W := hX.ext hE
  have hu1 := mkx QV.mono hu hE
  obtain ⟨b, hb⟩ : ∃ b, w.heap.size = b := ⟨_, rfl⟩
  rw [hb] at b0 hz
  have k00 := b0.cell 0 rfl
  have k01 := b0.cell 1 rfl
  have k02 := b0.cell 2 rfl
  have hfl := run_fieldNum
  clear hu
  go_enter Tryz.func21, Tryz.ntmps21
  go_wp2_with fail
  refine (rqtake X W _ x hXW hu1).mono ?_
  rintro ee w5 ⟨hE5, u5, rfl, hq5⟩
  obtain ⟨s5, a5, n5, c5, d5, k5, e5, rfl⟩ := hq5.shape
  have hz5 := hq5.num.1.zv (Nat.le_trans (Nat.le_trans (hq_num x) hlx.out) (by omega))
  clear k00 k01 k02
  go_wp2_with fail
  refine (risign X w5 _ _ (hXW.ext hE5) hz5).mono ?_
  rintro ee w6 ⟨hE6, rfl⟩
  go_wp2_with fail
  go_ret
  exact ⟨hE.trans (hE5.trans hE6), rfl⟩
set_option maxRecDepth 100000 in
theorem rqneg (X : Nat -> Bool) (w : World) (u : Value) (x : Rat) (hX : HX X w) (hu : QV (mk X w) u x) : Calls Tryz.prog 56 #[u] w (ROut X w QC (-x)) := by
  have hlx := hid hu.hq
  obtain ⟨s1, a1, n1, c1, d1, k1, e1, rfl⟩ := hu.shape
  obtain ⟨W, hW, hE, b0, b1, hz⟩ := boxes2 w #[.bool s1, .slice a1 n1 c1, .slice d1 k1 e1] #[.bool false, .slice none 0 0, .slice none 0 0] 38 38
  have hXW : HX (hidB X w.heap.size 2) W := hX.boxes hz
  have hu1 := QV.mono _ _ _ _ (le_boxes (nb := 2) hE) hu
  obtain ⟨b, hb⟩ : ∃ b, w.heap.size = b := ⟨_, rfl⟩
  have hbw : w.heap.size <= b := by omega
  rw [hb] at b0 b1 hz hXW hu1
  have k00 := b0.cell 0 rfl
  have k01 := b0.cell 1 rfl
  have k02 := b0.cell 2 rfl
  clear hu
  go_enter Tryz.func56, Tryz.ntmps56
  go_wp2_with fail
  refine (rqtake (hidB X b 2) W _ x hXW hu1).mono ?_
  rintro e w5 ⟨hE5, u5, rfl, hq5⟩
  obtain ⟨s5, a5, n5, c5, d5, k5, e5, rfl⟩ := hq5.shape
  have hX5 := hXW.ext hE5
  have bb0 := b0.ext0 hE5
  have bb1 := b1.ext0 hE5
  clear k00 k01 k02
  go_upto_region 2 with ((with_reducible show wpList _ _ _ (⟨_, .store _ _ _, _, _, _, _⟩ :: _) _ _); refine st_storeBox stRat rfl rfl bb0 rfl rfl (one3 _ _ _ _ _ _ _) ?_; intro w7 r1 r2; have k00 := r1.cell 0 rfl; have k01 := r1.cell 1 rfl; have k02 := r1.cell 2 rfl)
  have hX7 := hX5.ext r2
  have bb3 := bb1.ext r2 (ob_other (by omega))
  have hx7 := QC.mono _ _ _ _ (le_store (X := X) (lo := b) (nb := 2) r2 (by omega) (by omega)) hq5
  have hE7 : Ext w w7 := ExtX.box (hE.trans hE5) r2 (by omega)
  obtain ⟨hxz, hxm, hxdn⟩ := hx7.num
  have hEd : Ext w7 w7.drew := (ExtX.refl w7).drew
  have hXd : HX (hidB X b 2) w7.drew := hX7
  have hxzd : ZC (mk (hidB X b 2) w7.drew) (.agg #[.bool s5, .slice a5 n5 c5]) x.num := hxz
  have hxdd : NC (mk (hidB X b 2) w7.drew) (.slice d5 k5 e5) (dn x) := hxdn
  have bxn : lg x.num.natAbs <= 549755813888 := Nat.le_trans (Nat.le_trans (hq_num x) hlx.out) (by omega)
  have bxd : lg (dn x) <= 549755813888 := Nat.le_trans (Nat.le_trans (dn_le x) hlx.out) (by omega)
  have hxv := hxzd.zv bxn
  have hS : Hid (∀ W', Ext w7.drew W' -> W'.cell? ⟨b, 0, none⟩ = some (.bool s5) /\ W'.cell? ⟨b, 1, none⟩ = some (.slice a5 n5 c5) /\ W'.cell? ⟨b, 2, none⟩ = some (.slice d5 k5 e5)) :=
    hid fun W' h => ⟨(r1.ext0 (hEd.trans h)).cell 0 rfl, (r1.ext0 (hEd.trans h)).cell 1 rfl, (r1.ext0 (hEd.trans h)).cell 2 rfl⟩
  go_region_held3 (fun w' => w'.cell? ⟨b, 0, none⟩ = some (.bool s5) /\ w'.cell? ⟨b, 1, none⟩ = some (.slice a5 n5 c5) /\ w'.cell? ⟨b, 2, none⟩ = some (.slice d5 k5 e5))
    (first | exact hS.out _ t1 | exact hS.out _ t2 | exact ⟨((r1.ext0 (hEd.trans t2)).ext (bb2.set3 _ _ _).2 (ob_other (by omega))).cell 0 rfl, ((r1.ext0 (hEd.trans t2)).ext (bb2.set3 _ _ _).2 (ob_other (by omega))).cell 1 rfl, ((r1.ext0 (hEd.trans t2)).ext (bb2.set3 _ _ _).2 (ob_other (by omega))).cell 2 rfl⟩ | go_keep)
    (first | (go_at_call 117; (with_reducible refine (rineg (hidB X b 2) w7.drew _ _ hXd hxv).mono ?_); rintro ee w8 ⟨t1, u8, rfl, s8, a8, c8, l8, rfl, h81, h82, h83⟩; have hX8 := HX.ext hXd t1; have t2 := t1; have hm8 := mkx NC.mono hxdd t1; have bb2 := bb3.ext0 (hEd.trans t2); have g0 := bb2.cell 0 rfl; have g1 := bb2.cell 1 rfl; have g2 := bb2.cell 2 rfl; have f0 := bb2.frozen 0; have f1 := bb2.frozen 1; have f2 := bb2.frozen 2))
  obtain ⟨q1, q2⟩ := bb2.set3 (.bool s8) (.slice a8 l8.length c8) (.slice d5 k5 e5)
  have hz : ZC (mk (hidB X b 2) w8) (.agg #[.bool s8, .slice a8 l8.length c8]) (-x).num := ⟨s8, a8, c8, l8, rfl, h81, by rw [Rat.neg_num]; exact h82, h83⟩
  have hd : NC (mk (hidB X b 2) w8) (.slice d5 k5 e5) (dn (-x)) := by rw [dn_neg]; exact hm8
  have h7 := QC.mono _ _ _ _ le_unbox (QC.mono _ _ _ _ (le_store q2 (by omega) (by omega)) (QC.of hz hd))
  have hEf : Ext w _ := ExtX.box (hE7.trans (hEd.trans t2)) q2 (by omega)
  clear g0 g1 g2 f0 f1 f2 k00 k01 k02 hS
  go_wp2_with fail
  exact bodyPost_ret (results_box rfl rfl stRat q1 rfl) rfl ⟨hEf, _, rfl, h7⟩
end Go.Proofs.YtgimdkjgaemcbaaGreat
namespace Go.Proofs.YtgimdkjgaemcbaaGreat
open Go.RowKit Go.Rep Go.Lim
set_option maxRecDepth 100000 in
set_option maxHeartbeats 1600000 in
theorem rqadd (X : Nat -> Bool) (w : World) (u v : Value) (x y : Rat) (hX : HX X w) (hu : QV (mk X w) u x) (hv : QV (mk X w) v y) : Calls Tryz.prog 50 #[u, v] w (ROut X w QC (x + y)) := by
  have hlx := hid hu.hq
  have hly := hid hv.hq
  obtain ⟨s1, a1, n1, c1, d1, k1, e1, rfl⟩ := hu.shape
  obtain ⟨s2, a2, n2, c2, d2, k2, e2, rfl⟩ := hv.shape
  obtain ⟨W, hW, hE, b0, b1, b2, hz⟩ := boxes3 w #[.bool s1, .slice a1 n1 c1, .slice d1 k1 e1] #[.bool s2, .slice a2 n2 c2, .slice d2 k2 e2] #[.bool false, .slice none 0 0, .slice none 0 0] 38 38 38
  have hXW : HX (hidB X w.heap.size 3) W := hX.boxes hz
  have hu1 := QV.mono _ _ _ _ (le_boxes (nb := 3) hE) hu
  have hv1 := QV.mono _ _ _ _ (le_boxes (nb := 3) hE) hv
  obtain ⟨b, hb⟩ : ∃ b, w.heap.size = b := ⟨_, rfl⟩
  have hbw : w.heap.size <= b := by omega
  rw [hb] at b0 b1 b2 hz hXW hu1 hv1
  have hEd : Ext W W.drew := (ExtX.refl W).drew
  have hXd : HX (hidB X b 3) W.drew := hXW
  have hud : QV (mk (hidB X b 3) W.drew) (.agg #[.bool s1, .slice a1 n1 c1, .slice d1 k1 e1]) x := hu1
  have hvd : QV (mk (hidB X b 3) W.drew) (.agg #[.bool s2, .slice a2 n2 c2, .slice d2 k2 e2]) y := hv1
  have k00 := b0.cell 0 rfl
  have k01 := b0.cell 1 rfl
  have k02 := b0.cell 2 rfl
  have k10 := b1.cell 0 rfl
  have k11 := b1.cell 1 rfl
  have k12 := b1.cell 2 rfl
  clear hu hv
  go_enter Tryz.func50, Tryz.ntmps50
  go_upto_region 1 with (fail)
  go_cut [] from 5 to 8 (fun wx => ∃ s3 a3 n3 c3 d3 k3 e3 s4 a4 n4 c4 d4 k4 e4, Bx wx b #[.bool s3, .slice a3 n3 c3, .slice d3 k3 e3] 38 /\ Bx wx (b + 1) #[.bool s4, .slice a4 n4 c4, .slice d4 k4 e4] 38 /\ Bx wx (b + 1 + 1) #[.bool false, .slice none 0 0, .slice none 0 0] 38 /\ QC (mk (hidB X b 3) wx) (.agg #[.bool s3, .slice a3 n3 c3, .slice d3 k3 e3]) x /\ QC (mk (hidB X b 3) wx) (.agg #[.bool s4, .slice a4 n4 c4, .slice d4 k4 e4]) y /\ Ext w wx)
  case first =>
    go_region_with (first | (go_at_call 85; (with_reducible refine (rqtake (hidB X b 3) W.drew _ x hXd hud).mono ?_); rintro ee w5 ⟨hE5, u5, rfl, hq5⟩; obtain ⟨s5, a5, n5, c5, d5, k5, e5, rfl⟩ := hq5.shape; have bb0 := b0.ext0 (hEd.trans hE5); have bb1 := b1.ext0 (hEd.trans hE5); have e00 := bb0.cell 0 rfl; have e01 := bb0.cell 1 rfl; have e02 := bb0.cell 2 rfl; have e10 := bb1.cell 0 rfl; have e11 := bb1.cell 1 rfl; have e12 := bb1.cell 2 rfl) | (go_at_call 85; (with_reducible refine (rqtake (hidB X b 3) w5 _ y (HX.ext hXd hE5) (mkx QV.mono hvd hE5)).mono ?_); rintro ee w6 ⟨hE6, u6, rfl, hq6⟩; obtain ⟨s6, a6, n6, c6, d6, k6, e6, rfl⟩ := hq6.shape; have bb2 := bb0.ext0 hE6; have bb3 := bb1.ext0 hE6; have g00 := bb2.cell 0 rfl; have g01 := bb2.cell 1 rfl; have g02 := bb2.cell 2 rfl; have g10 := bb3.cell 0 rfl; have g11 := bb3.cell 1 rfl; have g12 := bb3.cell 2 rfl; have fr0 := bb2.frozen 0; have fr1 := bb2.frozen 1; have fr4 := bb2.frozen 2; have fr2 := bb3.frozen 0; have fr3 := bb3.frozen 1; have fr5 := bb3.frozen 2))
    all_goals
      obtain ⟨wf, hwf, q0, q1, q2, q3, q4⟩ := two_stores3 (X := X) (nb := 3) bb2 bb3 (hE.trans ((hEd.trans hE5).trans hE6)) hbw (by omega) (.bool s5) (.slice a5 n5 c5) (.slice d5 k5 e5) (.bool s6) (.slice a6 n6 c6) (.slice d6 k6 e6)
      rw [hwf]
      have hfx : QC (mk (hidB X b 3) wf) (.agg #[.bool s5, .slice a5 n5 c5, .slice d5 k5 e5]) x := QC.mono _ _ _ _ q4 (mkx QC.mono hq5 hE6)
      have hfy : QC (mk (hidB X b 3) wf) (.agg #[.bool s6, .slice a6 n6 c6, .slice d6 k6 e6]) y := QC.mono _ _ _ _ q4 hq6
      have q5 := q2 (b + 1 + 1) _ _ (by omega) (by omega) ((b2.ext0 (hEd.trans hE5)).ext0 hE6)
      clear e00 e01 e02 e10 e11 e12 g00 g01 g02 g10 g11 g12 fr0 fr1 fr2 fr3 fr4 fr5 k00 k01 k02 k10 k11 k12 hwf
      go_wp2_with fail
      go_meet
      exact ⟨_, _, _, _, _, _, _, _, _, _, _, _, _, _, q0, q1, q5, hfx, hfy, q3⟩
  case rest =>
    clear k00 k01 k02 k10 k11 k12 b0 b1 b2 hu1 hv1 hud hvd hXd hEd hW
    obtain ⟨s3, a3, n3, c3, d3, k3, e3, s4, a4, n4, c4, d4, k4, e4, b0, b1, b2, hx, hy, hE1⟩ := hcut
    have hzz : w.heap.size + 3 <= wc.heap.size := by have := b2.lt; omega
    obtain ⟨hxz, hxm, hxdn⟩ := hx.num
    obtain ⟨hyz, hym, hydn⟩ := hy.num
    have hXc : HX (hidB X b 3) wc := hX.boxes' hE1 (by have := hzz; omega) hzz
    have k00 := b0.cell 0 rfl
    have k01 := b0.cell 1 rfl
    have k02 := b0.cell 2 rfl
    have k10 := b1.cell 0 rfl
    have k11 := b1.cell 1 rfl
    have k12 := b1.cell 2 rfl
    have hEd : Ext wc wc.drew := (ExtX.refl wc).drew
    have hXd : HX (hidB X b 3) wc.drew := hXc
    have hxd : QC (mk (hidB X b 3) wc.drew) (.agg #[.bool s3, .slice a3 n3 c3, .slice d3 k3 e3]) x := hx
    have hyd : QC (mk (hidB X b 3) wc.drew) (.agg #[.bool s4, .slice a4 n4 c4, .slice d4 k4 e4]) y := hy
    have hxzd : ZC (mk (hidB X b 3) wc.drew) (.agg #[.bool s3, .slice a3 n3 c3]) x.num := hxz
    have hyzd : ZC (mk (hidB X b 3) wc.drew) (.agg #[.bool s4, .slice a4 n4 c4]) y.num := hyz
    have bxn : lg x.num.natAbs <= 549755813888 := Nat.le_trans (Nat.le_trans (hq_num x) hlx.out) (by omega)
    have byn : lg y.num.natAbs <= 549755813888 := Nat.le_trans (Nat.le_trans (hq_num y) hly.out) (by omega)
    have bxd : lg x.den <= 549755813888 := Nat.le_trans (Nat.le_trans (hq_den x) hlx.out) (by omega)
    have byd : lg y.den <= 549755813888 := Nat.le_trans (Nat.le_trans (hq_den y) hly.out) (by omega)
    have bp1 : lg (x.num * (y.den : Int)).natAbs <= 274877906944 := by rw [Int.natAbs_mul, Int.natAbs_natCast]; have := lg_mul x.num.natAbs y.den; have := hq_num x; have := hq_den y; have := hlx.out; have := hly.out; omega
    have bp2 : lg (y.num * (x.den : Int)).natAbs <= 274877906944 := by rw [Int.natAbs_mul, Int.natAbs_natCast]; have := lg_mul y.num.natAbs x.den; have := hq_num y; have := hq_den x; have := hlx.out; have := hly.out; omega
    have bdd : lg (x.den * y.den) <= 274877906944 := by have := lg_mul x.den y.den; have := hq_den x; have := hq_den y; have := hlx.out; have := hly.out; omega
    have bnn : lg (x.num * y.num).natAbs <= 274877906944 := by rw [Int.natAbs_mul]; have := lg_mul x.num.natAbs y.num.natAbs; have := hq_num x; have := hq_num y; have := hlx.out; have := hly.out; omega
    have bd0 : 0 < x.den * y.den := Nat.mul_pos x.den_pos y.den_pos
    have hB := hid (And.intro b0 b1)
    have hS : Hid (∀ W', Ext wc.drew W' -> W'.cell? ⟨b, 0, none⟩ = some (.bool s3) /\ W'.cell? ⟨b, 1, none⟩ = some (.slice a3 n3 c3) /\ W'.cell? ⟨b, 2, none⟩ = some (.slice d3 k3 e3) /\ W'.cell? ⟨b + 1, 0, none⟩ = some (.bool s4) /\ W'.cell? ⟨b + 1, 1, none⟩ = some (.slice a4 n4 c4) /\ W'.cell? ⟨b + 1, 2, none⟩ = some (.slice d4 k4 e4)) :=
      hid fun W' h => ⟨(b0.ext0 (hEd.trans h)).cell 0 rfl, (b0.ext0 (hEd.trans h)).cell 1 rfl, (b0.ext0 (hEd.trans h)).cell 2 rfl, (b1.ext0 (hEd.trans h)).cell 0 rfl, (b1.ext0 (hEd.trans h)).cell 1 rfl, (b1.ext0 (hEd.trans h)).cell 2 rfl⟩
    have bqx : hq x <= 549755813888 := Nat.le_trans hlx.out (by decide)
    have bqy : hq y <= 549755813888 := Nat.le_trans hly.out (by decide)
    have cxn : lg x.num.natAbs <= 274877906944 := Nat.le_trans (Nat.le_trans (hq_num x) hlx.out) (by omega)
    have cyn : lg y.num.natAbs <= 274877906944 := Nat.le_trans (Nat.le_trans (hq_num y) hly.out) (by omega)
    have cxd : lg (x.den : Int).natAbs <= 274877906944 := Nat.le_trans (Nat.le_trans (hq_den x) hlx.out) (by omega)
    have cyd : lg (y.den : Int).natAbs <= 274877906944 := Nat.le_trans (Nat.le_trans (hq_den y) hly.out) (by omega)
    have cdd : lg ((x.den : Int) * (y.den : Int)).natAbs <= 274877906944 := by rw [<- Int.natCast_mul, Int.natAbs_natCast]; exact bdd
    have cd0 : (x.den : Int) * (y.den : Int) ≠ 0 := Int.mul_ne_zero (by have := x.den_nz; omega) (by have := y.den_nz; omega)
    have csum : lg (x.num * (y.den : Int) + y.num * (x.den : Int)).natAbs <= 274877906944 := by
      have h1 := lg_mono (Int.natAbs_add_le (x.num * (y.den : Int)) (y.num * (x.den : Int)))
      have h2 := lg_add (x.num * (y.den : Int)).natAbs (y.num * (x.den : Int)).natAbs
      have h3 : lg (x.num * (y.den : Int)).natAbs <= 137438953472 := by rw [Int.natAbs_mul, Int.natAbs_natCast]; have := lg_mul x.num.natAbs y.den; have := hq_num x; have := hq_den y; have := hlx.out; have := hly.out; omega
      have h4 : lg (y.num * (x.den : Int)).natAbs <= 137438953472 := by rw [Int.natAbs_mul, Int.natAbs_natCast]; have := lg_mul y.num.natAbs x.den; have := hq_num y; have := hq_den x; have := hlx.out; have := hly.out; omega
      omega
    have hfin : Hid (((x.num * (y.den : Int) + y.num * (x.den : Int) : Int) : Rat) / (((x.den : Int) * (y.den : Int) : Int) : Rat) = x + y) := hid (by
      rw [<- Int.natCast_mul, Rat.intCast_natCast, <- Rat.mkRat_eq_div]; exact (Rat.add_def' x y).symm)
    go_wp2_with fail
    go_region_held3 (fun w' => w'.cell? ⟨b, 0, none⟩ = some (.bool s3) /\ w'.cell? ⟨b, 1, none⟩ = some (.slice a3 n3 c3) /\ w'.cell? ⟨b, 2, none⟩ = some (.slice d3 k3 e3) /\ w'.cell? ⟨b + 1, 0, none⟩ = some (.bool s4) /\ w'.cell? ⟨b + 1, 1, none⟩ = some (.slice a4 n4 c4) /\ w'.cell? ⟨b + 1, 2, none⟩ = some (.slice d4 k4 e4))
      (first | exact hS.out _ t1 | exact hS.out _ t2 | exact hS.out _ t3 | exact hS.out _ t4 | exact hS.out _ t5 | exact hS.out _ t6 | exact hS.out _ t7 | exact hS.out _ t8 | exact hS.out _ t9 | exact ⟨((hB.out.1.ext0 (hEd.trans t9)).ext (bb2.set3 _ _ _).2 (ob_other (by omega))).cell 0 rfl, ((hB.out.1.ext0 (hEd.trans t9)).ext (bb2.set3 _ _ _).2 (ob_other (by omega))).cell 1 rfl, ((hB.out.1.ext0 (hEd.trans t9)).ext (bb2.set3 _ _ _).2 (ob_other (by omega))).cell 2 rfl, ((hB.out.2.ext0 (hEd.trans t9)).ext (bb2.set3 _ _ _).2 (ob_other (by omega))).cell 0 rfl, ((hB.out.2.ext0 (hEd.trans t9)).ext (bb2.set3 _ _ _).2 (ob_other (by omega))).cell 1 rfl, ((hB.out.2.ext0 (hEd.trans t9)).ext (bb2.set3 _ _ _).2 (ob_other (by omega))).cell 2 rfl⟩ | go_keep)
      (first | (go_at_call 111; (with_reducible refine (rqden (hidB X b 3) wc.drew _ y hXd hyd bqy).mono ?_); rintro ee w5 ⟨t1, u5, rfl, hu5⟩; have hX5 := HX.ext hXd t1; have hx5 := mkx ZC.mono hxzd t1) | (go_at_call 110; (with_reducible refine (rimul (hidB X b 3) w5 _ _ x.num (y.den : Int) hX5 (hx5.zv (Nat.le_trans cxn (by decide))) (hu5.zv (Nat.le_trans cyd (by decide))) cxn cyd).mono ?_); rintro ee w6 ⟨hE6, u6, rfl, hu6⟩; have t2 := t1.trans hE6; have hX6 := HX.ext hXd t2; have hx6 := mkx QC.mono hxd t2) | (go_at_call 111; (with_reducible refine (rqden (hidB X b 3) w6 _ x hX6 hx6 bqx).mono ?_); rintro ee w7 ⟨hE7, u7, rfl, hu7⟩; have t3 := t2.trans hE7; have hX7 := HX.ext hXd t3; have hy7 := mkx ZC.mono hyzd t3) | (go_at_call 110; (with_reducible refine (rimul (hidB X b 3) w7 _ _ y.num (x.den : Int) hX7 (hy7.zv (Nat.le_trans cyn (by decide))) (hu7.zv (Nat.le_trans cxd (by decide))) cyn cxd).mono ?_); rintro ee w8 ⟨hE8, u8, rfl, hu8⟩; have t4 := t3.trans hE8; have hX8 := HX.ext hXd t4; have hz6 := mkx ZC.mono hu6 (hE7.trans hE8)) | (go_at_call 109; (with_reducible refine (riadd (hidB X b 3) w8 _ _ _ _ hX8 (hz6.zv (Nat.le_trans bp1 (by decide))) (hu8.zv (Nat.le_trans bp2 (by decide)))).mono ?_); rintro ee w9 ⟨hE9, u9, rfl, hu9⟩; have t5 := t4.trans hE9; have hX9 := HX.ext hXd t5; have hx9 := mkx QC.mono hxd t5) | (go_at_call 111; (with_reducible refine (rqden (hidB X b 3) w9 _ x hX9 hx9 bqx).mono ?_); rintro ee w10 ⟨hE10, u10, rfl, hu10⟩; have t6 := t5.trans hE10; have hX10 := HX.ext hXd t6; have hy10 := mkx QC.mono hyd t6) | (go_at_call 111; (with_reducible refine (rqden (hidB X b 3) w10 _ y hX10 hy10 bqy).mono ?_); rintro ee w11 ⟨hE11, u11, rfl, hu11⟩; have t7 := t6.trans hE11; have hX11 := HX.ext hXd t7; have hm10 := mkx ZC.mono hu10 hE11) | (go_at_call 110; (with_reducible refine (rimul (hidB X b 3) w11 _ _ (x.den : Int) (y.den : Int) hX11 (hm10.zv (Nat.le_trans cxd (by decide))) (hu11.zv (Nat.le_trans cyd (by decide))) cxd cyd).mono ?_); rintro ee w12 ⟨hE12, u12, rfl, hu12⟩; have t8 := t7.trans hE12; have hX12 := HX.ext hXd t8; have hz9 := mkx ZC.mono hu9 (hE10.trans (hE11.trans hE12))) | (go_at_call 80; (with_reducible refine (rqover (hidB X b 3) w12 _ _ _ _ hX12 hz9 hu12 csum cdd cd0).mono ?_); rintro ee w13 ⟨hE13, u13, rfl, hu13⟩; have t9 := t8.trans hE13; obtain ⟨s13, a13, n13, c13, d13, k13, e13, rfl⟩ := hu13.shape; have bb2 := b2.ext0 (hEd.trans t9); have g0 := bb2.cell 0 rfl; have g1 := bb2.cell 1 rfl; have g2 := bb2.cell 2 rfl; have f0 := bb2.frozen 0; have f1 := bb2.frozen 1; have f2 := bb2.frozen 2))
    rw [hfin.out] at hu13
    obtain ⟨r1, r2⟩ := bb2.set3 (.bool s13) (.slice a13 n13 c13) (.slice d13 k13 e13)
    have h7 := QC.mono _ _ _ _ le_unbox (QC.mono _ _ _ _ (le_store r2 (by omega) (by omega)) hu13)
    have hEf : Ext w _ := ExtX.box (hE1.trans (hEd.trans t9)) r2 (by omega)
    clear g0 g1 g2 f0 f1 f2 k00 k01 k02 k10 k11 k12 hS hB
    go_wp2_with fail
    exact bodyPost_ret (results_box rfl rfl stRat r1 rfl) rfl ⟨hEf, _, rfl, h7⟩
set_option maxRecDepth 100000 in
set_option maxHeartbeats 1600000 in
theorem rqmul (X : Nat -> Bool) (w : World) (u v : Value) (x y : Rat) (hX : HX X w) (hu : QV (mk X w) u x) (hv : QV (mk X w) v y) : Calls Tryz.prog 51 #[u, v] w (ROut X w QC (x * y)) := by
  have hlx := hid hu.hq
  have hly := hid hv.hq
  obtain ⟨s1, a1, n1, c1, d1, k1, e1, rfl⟩ := hu.shape
  obtain ⟨s2, a2, n2, c2, d2, k2, e2, rfl⟩ := hv.shape
  obtain ⟨W, hW, hE, b0, b1, b2, hz⟩ := boxes3 w #[.bool s1, .slice a1 n1 c1, .slice d1 k1 e1] #[.bool s2, .slice a2 n2 c2, .slice d2 k2 e2] #[.bool false, .slice none 0 0, .slice none 0 0] 38 38 38
  have hXW : HX (hidB X w.heap.size 3) W := hX.boxes hz
  have hu1 := QV.mono _ _ _ _ (le_boxes (nb := 3) hE) hu
  have hv1 := QV.mono _ _ _ _ (le_boxes (nb := 3) hE) hv
  obtain ⟨b, hb⟩ : ∃ b, w.heap.size = b := ⟨_, rfl⟩
  have hbw : w.heap.size <= b := by omega
  rw [hb] at b0 b1 b2 hz hXW hu1 hv1
  have hEd : Ext W W.drew := (ExtX.refl W).drew
  have hXd : HX (hidB X b 3) W.drew := hXW
  have hud : QV (mk (hidB X b 3) W.drew) (.agg #[.bool s1, .slice a1 n1 c1, .slice d1 k1 e1]) x := hu1
  have hvd : QV (mk (hidB X b 3) W.drew) (.agg #[.bool s2, .slice a2 n2 c2, .slice d2 k2 e2]) y := hv1
  have k00 := b0.cell 0 rfl
  have k01 := b0.cell 1 rfl
  have k02 := b0.cell 2 rfl
  have k10 := b1.cell 0 rfl
  have k11 := b1.cell 1 rfl
  have k12 := b1.cell 2 rfl
  clear hu hv
  go_enter Tryz.func51, Tryz.ntmps51
  go_upto_region 1 with (fail)
  go_cut [] from 5 to 8 (fun wx => ∃ s3 a3 n3 c3 d3 k3 e3 s4 a4 n4 c4 d4 k4 e4, Bx wx b #[.bool s3, .slice a3 n3 c3, .slice d3 k3 e3] 38 /\ Bx wx (b + 1) #[.bool s4, .slice a4 n4 c4, .slice d4 k4 e4] 38 /\ Bx wx (b + 1 + 1) #[.bool false, .slice none 0 0, .slice none 0 0] 38 /\ QC (mk (hidB X b 3) wx) (.agg #[.bool s3, .slice a3 n3 c3, .slice d3 k3 e3]) x /\ QC (mk (hidB X b 3) wx) (.agg #[.bool s4, .slice a4 n4 c4, .slice d4 k4 e4]) y /\ Ext w wx)
  case first =>
    go_region_with (first | (go_at_call 85; (with_reducible refine (rqtake (hidB X b 3) W.drew _ x hXd hud).mono ?_); rintro ee w5 ⟨hE5, u5, rfl, hq5⟩; obtain ⟨s5, a5, n5, c5, d5, k5, e5, rfl⟩ := hq5.shape; have bb0 := b0.ext0 (hEd.trans hE5); have bb1 := b1.ext0 (hEd.trans hE5); have e00 := bb0.cell 0 rfl; have e01 := bb0.cell 1 rfl; have e02 := bb0.cell 2 rfl; have e10 := bb1.cell 0 rfl; have e11 := bb1.cell 1 rfl; have e12 := bb1.cell 2 rfl) | (go_at_call 85; (with_reducible refine (rqtake (hidB X b 3) w5 _ y (HX.ext hXd hE5) (mkx QV.mono hvd hE5)).mono ?_); rintro ee w6 ⟨hE6, u6, rfl, hq6⟩; obtain ⟨s6, a6, n6, c6, d6, k6, e6, rfl⟩ := hq6.shape; have bb2 := bb0.ext0 hE6; have bb3 := bb1.ext0 hE6; have g00 := bb2.cell 0 rfl; have g01 := bb2.cell 1 rfl; have g02 := bb2.cell 2 rfl; have g10 := bb3.cell 0 rfl; have g11 := bb3.cell 1 rfl; have g12 := bb3.cell 2 rfl; have fr0 := bb2.frozen 0; have fr1 := bb2.frozen 1; have fr4 := bb2.frozen 2; have fr2 := bb3.frozen 0; have fr3 := bb3.frozen 1; have fr5 := bb3.frozen 2))
    all_goals
      obtain ⟨wf, hwf, q0, q1, q2, q3, q4⟩ := two_stores3 (X := X) (nb := 3) bb2 bb3 (hE.trans ((hEd.trans hE5).trans hE6)) hbw (by omega) (.bool s5) (.slice a5 n5 c5) (.slice d5 k5 e5) (.bool s6) (.slice a6 n6 c6) (.slice d6 k6 e6)
      rw [hwf]
      have hfx : QC (mk (hidB X b 3) wf) (.agg #[.bool s5, .slice a5 n5 c5, .slice d5 k5 e5]) x := QC.mono _ _ _ _ q4 (mkx QC.mono hq5 hE6)
      have hfy : QC (mk (hidB X b 3) wf) (.agg #[.bool s6, .slice a6 n6 c6, .slice d6 k6 e6]) y := QC.mono _ _ _ _ q4 hq6
      have q5 := q2 (b + 1 + 1) _ _ (by omega) (by omega) ((b2.ext0 (hEd.trans hE5)).ext0 hE6)
      clear e00 e01 e02 e10 e11 e12 g00 g01 g02 g10 g11 g12 fr0 fr1 fr2 fr3 fr4 fr5 k00 k01 k02 k10 k11 k12 hwf
      go_wp2_with fail
      go_meet
      exact ⟨_, _, _, _, _, _, _, _, _, _, _, _, _, _, q0, q1, q5, hfx, hfy, q3⟩
  case rest =>
    clear k00 k01 k02 k10 k11 k12 b0 b1 b2 hu1 hv1 hud hvd hXd hEd hW
    obtain ⟨s3, a3, n3, c3, d3, k3, e3, s4, a4, n4, c4, d4, k4, e4, b0, b1, b2, hx, hy, hE1⟩ := hcut
    have hzz : w.heap.size + 3 <= wc.heap.size := by have := b2.lt; omega
    obtain ⟨hxz, hxm, hxdn⟩ := hx.num
    obtain ⟨hyz, hym, hydn⟩ := hy.num
    have hXc : HX (hidB X b 3) wc := hX.boxes' hE1 (by have := hzz; omega) hzz
    have k00 := b0.cell 0 rfl
    have k01 := b0.cell 1 rfl
    have k02 := b0.cell 2 rfl
    have k10 := b1.cell 0 rfl
    have k11 := b1.cell 1 rfl
    have k12 := b1.cell 2 rfl
    have hEd : Ext wc wc.drew := (ExtX.refl wc).drew
    have hXd : HX (hidB X b 3) wc.drew := hXc
    have hxd : QC (mk (hidB X b 3) wc.drew) (.agg #[.bool s3, .slice a3 n3 c3, .slice d3 k3 e3]) x := hx
    have hyd : QC (mk (hidB X b 3) wc.drew) (.agg #[.bool s4, .slice a4 n4 c4, .slice d4 k4 e4]) y := hy
    have hxzd : ZC (mk (hidB X b 3) wc.drew) (.agg #[.bool s3, .slice a3 n3 c3]) x.num := hxz
    have hyzd : ZC (mk (hidB X b 3) wc.drew) (.agg #[.bool s4, .slice a4 n4 c4]) y.num := hyz
    have bxn : lg x.num.natAbs <= 549755813888 := Nat.le_trans (Nat.le_trans (hq_num x) hlx.out) (by omega)
    have byn : lg y.num.natAbs <= 549755813888 := Nat.le_trans (Nat.le_trans (hq_num y) hly.out) (by omega)
    have bxd : lg x.den <= 549755813888 := Nat.le_trans (Nat.le_trans (hq_den x) hlx.out) (by omega)
    have byd : lg y.den <= 549755813888 := Nat.le_trans (Nat.le_trans (hq_den y) hly.out) (by omega)
    have bp1 : lg (x.num * (y.den : Int)).natAbs <= 274877906944 := by rw [Int.natAbs_mul, Int.natAbs_natCast]; have := lg_mul x.num.natAbs y.den; have := hq_num x; have := hq_den y; have := hlx.out; have := hly.out; omega
    have bp2 : lg (y.num * (x.den : Int)).natAbs <= 274877906944 := by rw [Int.natAbs_mul, Int.natAbs_natCast]; have := lg_mul y.num.natAbs x.den; have := hq_num y; have := hq_den x; have := hlx.out; have := hly.out; omega
    have bdd : lg (x.den * y.den) <= 274877906944 := by have := lg_mul x.den y.den; have := hq_den x; have := hq_den y; have := hlx.out; have := hly.out; omega
    have bnn : lg (x.num * y.num).natAbs <= 274877906944 := by rw [Int.natAbs_mul]; have := lg_mul x.num.natAbs y.num.natAbs; have := hq_num x; have := hq_num y; have := hlx.out; have := hly.out; omega
    have bd0 : 0 < x.den * y.den := Nat.mul_pos x.den_pos y.den_pos
    have hB := hid (And.intro b0 b1)
    have hS : Hid (∀ W', Ext wc.drew W' -> W'.cell? ⟨b, 0, none⟩ = some (.bool s3) /\ W'.cell? ⟨b, 1, none⟩ = some (.slice a3 n3 c3) /\ W'.cell? ⟨b, 2, none⟩ = some (.slice d3 k3 e3) /\ W'.cell? ⟨b + 1, 0, none⟩ = some (.bool s4) /\ W'.cell? ⟨b + 1, 1, none⟩ = some (.slice a4 n4 c4) /\ W'.cell? ⟨b + 1, 2, none⟩ = some (.slice d4 k4 e4)) :=
      hid fun W' h => ⟨(b0.ext0 (hEd.trans h)).cell 0 rfl, (b0.ext0 (hEd.trans h)).cell 1 rfl, (b0.ext0 (hEd.trans h)).cell 2 rfl, (b1.ext0 (hEd.trans h)).cell 0 rfl, (b1.ext0 (hEd.trans h)).cell 1 rfl, (b1.ext0 (hEd.trans h)).cell 2 rfl⟩
    have bqx : hq x <= 549755813888 := Nat.le_trans hlx.out (by decide)
    have bqy : hq y <= 549755813888 := Nat.le_trans hly.out (by decide)
    have cxn : lg x.num.natAbs <= 274877906944 := Nat.le_trans (Nat.le_trans (hq_num x) hlx.out) (by omega)
    have cyn : lg y.num.natAbs <= 274877906944 := Nat.le_trans (Nat.le_trans (hq_num y) hly.out) (by omega)
    have cxd : lg (x.den : Int).natAbs <= 274877906944 := Nat.le_trans (Nat.le_trans (hq_den x) hlx.out) (by omega)
    have cyd : lg (y.den : Int).natAbs <= 274877906944 := Nat.le_trans (Nat.le_trans (hq_den y) hly.out) (by omega)
    have cdd : lg ((x.den : Int) * (y.den : Int)).natAbs <= 274877906944 := by rw [<- Int.natCast_mul, Int.natAbs_natCast]; exact bdd
    have cd0 : (x.den : Int) * (y.den : Int) ≠ 0 := Int.mul_ne_zero (by have := x.den_nz; omega) (by have := y.den_nz; omega)
    have hfin : Hid (((x.num * y.num : Int) : Rat) / (((x.den : Int) * (y.den : Int) : Int) : Rat) = x * y) := hid (by
      rw [<- Int.natCast_mul, Rat.intCast_natCast, <- Rat.mkRat_eq_div]; exact (Rat.mul_def' x y).symm)
    go_wp2_with fail
    go_region_held3 (fun w' => w'.cell? ⟨b, 0, none⟩ = some (.bool s3) /\ w'.cell? ⟨b, 1, none⟩ = some (.slice a3 n3 c3) /\ w'.cell? ⟨b, 2, none⟩ = some (.slice d3 k3 e3) /\ w'.cell? ⟨b + 1, 0, none⟩ = some (.bool s4) /\ w'.cell? ⟨b + 1, 1, none⟩ = some (.slice a4 n4 c4) /\ w'.cell? ⟨b + 1, 2, none⟩ = some (.slice d4 k4 e4))
      (first | exact hS.out _ t1 | exact hS.out _ t2 | exact hS.out _ t3 | exact hS.out _ t4 | exact hS.out _ t5 | exact ⟨((hB.out.1.ext0 (hEd.trans t5)).ext (bb2.set3 _ _ _).2 (ob_other (by omega))).cell 0 rfl, ((hB.out.1.ext0 (hEd.trans t5)).ext (bb2.set3 _ _ _).2 (ob_other (by omega))).cell 1 rfl, ((hB.out.1.ext0 (hEd.trans t5)).ext (bb2.set3 _ _ _).2 (ob_other (by omega))).cell 2 rfl, ((hB.out.2.ext0 (hEd.trans t5)).ext (bb2.set3 _ _ _).2 (ob_other (by omega))).cell 0 rfl, ((hB.out.2.ext0 (hEd.trans t5)).ext (bb2.set3 _ _ _).2 (ob_other (by omega))).cell 1 rfl, ((hB.out.2.ext0 (hEd.trans t5)).ext (bb2.set3 _ _ _).2 (ob_other (by omega))).cell 2 rfl⟩ | go_keep)
      (first | (go_at_call 110; (with_reducible refine (rimul (hidB X b 3) wc.drew _ _ x.num y.num hXd (hxzd.zv (Nat.le_trans cxn (by decide))) (hyzd.zv (Nat.le_trans cyn (by decide))) cxn cyn).mono ?_); rintro ee w5 ⟨t1, u5, rfl, hu5⟩; have hX5 := HX.ext hXd t1; have hx5 := mkx QC.mono hxd t1) | (go_at_call 111; (with_reducible refine (rqden (hidB X b 3) w5 _ x hX5 hx5 bqx).mono ?_); rintro ee w6 ⟨hE6, u6, rfl, hu6⟩; have t2 := t1.trans hE6; have hX6 := HX.ext hXd t2; have hy6 := mkx QC.mono hyd t2) | (go_at_call 111; (with_reducible refine (rqden (hidB X b 3) w6 _ y hX6 hy6 bqy).mono ?_); rintro ee w7 ⟨hE7, u7, rfl, hu7⟩; have t3 := t2.trans hE7; have hX7 := HX.ext hXd t3; have hm6 := mkx ZC.mono hu6 hE7) | (go_at_call 110; (with_reducible refine (rimul (hidB X b 3) w7 _ _ (x.den : Int) (y.den : Int) hX7 (hm6.zv (Nat.le_trans cxd (by decide))) (hu7.zv (Nat.le_trans cyd (by decide))) cxd cyd).mono ?_); rintro ee w8 ⟨hE8, u8, rfl, hu8⟩; have t4 := t3.trans hE8; have hX8 := HX.ext hXd t4; have hz5 := mkx ZC.mono hu5 (hE6.trans (hE7.trans hE8))) | (go_at_call 80; (with_reducible refine (rqover (hidB X b 3) w8 _ _ _ _ hX8 hz5 hu8 bnn cdd cd0).mono ?_); rintro ee w9 ⟨hE9, u9, rfl, hu9⟩; have t5 := t4.trans hE9; obtain ⟨s13, a13, n13, c13, d13, k13, e13, rfl⟩ := hu9.shape; have bb2 := b2.ext0 (hEd.trans t5); have g0 := bb2.cell 0 rfl; have g1 := bb2.cell 1 rfl; have g2 := bb2.cell 2 rfl; have f0 := bb2.frozen 0; have f1 := bb2.frozen 1; have f2 := bb2.frozen 2))
    rw [hfin.out] at hu9
    obtain ⟨r1, r2⟩ := bb2.set3 (.bool s13) (.slice a13 n13 c13) (.slice d13 k13 e13)
    have h7 := QC.mono _ _ _ _ le_unbox (QC.mono _ _ _ _ (le_store r2 (by omega) (by omega)) hu9)
    have hEf : Ext w _ := ExtX.box (hE1.trans (hEd.trans t5)) r2 (by omega)
    clear g0 g1 g2 f0 f1 f2 k00 k01 k02 k10 k11 k12 hS hB
    go_wp2_with fail
    exact bodyPost_ret (results_box rfl rfl stRat r1 rfl) rfl ⟨hEf, _, rfl, h7⟩
end Go.Proofs.YtgimdkjgaemcbaaGreat
namespace Go.Proofs.YtgimdkjgaemcbaaGreat
open Go.RowKit Go.Rep Go.Lim
end Go.Proofs.YtgimdkjgaemcbaaGreat
namespace Go.Proofs.YtgimdkjgaemcbaaGreat
open Go.RowKit Go.Rep Go.Lim
set_option maxRecDepth 100000 in
theorem rqsub (X : Nat -> Bool) (w : World) (u v : Value) (x y : Rat) (hX : HX X w) (hu : QV (mk X w) u x) (hv : QV (mk X w) v y) : Calls Tryz.prog 88 #[u, v] w (ROut X w QC (x - y)) := by
  have hlx := hid hu.hq
  have hly := hid hv.hq
  obtain ⟨s1, a1, n1, c1, d1, k1, e1, rfl⟩ := hu.shape
  obtain ⟨s2, a2, n2, c2, d2, k2, e2, rfl⟩ := hv.shape
  obtain ⟨W, hW, hE, b0, b1, b2, hz⟩ := boxes3 w #[.bool s1, .slice a1 n1 c1, .slice d1 k1 e1] #[.bool s2, .slice a2 n2 c2, .slice d2 k2 e2] #[.bool false, .slice none 0 0, .slice none 0 0] 38 38 38
  have hXW : HX (hidB X w.heap.size 3) W := hX.boxes hz
  have hu1 := QV.mono _ _ _ _ (le_boxes (nb := 3) hE) hu
  have hv1 := QV.mono _ _ _ _ (le_boxes (nb := 3) hE) hv
  obtain ⟨b, hb⟩ : ∃ b, w.heap.size = b := ⟨_, rfl⟩
  have hbw : w.heap.size <= b := by omega
  rw [hb] at b0 b1 b2 hz hXW hu1 hv1
  have hEd : Ext W W.drew := (ExtX.refl W).drew
  have hXd : HX (hidB X b 3) W.drew := hXW
  have hud : QV (mk (hidB X b 3) W.drew) (.agg #[.bool s1, .slice a1 n1 c1, .slice d1 k1 e1]) x := hu1
  have hvd : QV (mk (hidB X b 3) W.drew) (.agg #[.bool s2, .slice a2 n2 c2, .slice d2 k2 e2]) y := hv1
  have k00 := b0.cell 0 rfl
  have k01 := b0.cell 1 rfl
  have k02 := b0.cell 2 rfl
  have k10 := b1.cell 0 rfl
  have k11 := b1.cell 1 rfl
  have k12 := b1.cell 2 rfl
  clear hu hv
  have hB := hid (And.intro b0 b1)
  have hS : Hid (∀ W', Ext W.drew W' -> W'.cell? ⟨b, 0, none⟩ = some (.bool s1) /\ W'.cell? ⟨b, 1, none⟩ = some (.slice a1 n1 c1) /\ W'.cell? ⟨b, 2, none⟩ = some (.slice d1 k1 e1) /\ W'.cell? ⟨b + 1, 0, none⟩ = some (.bool s2) /\ W'.cell? ⟨b + 1, 1, none⟩ = some (.slice a2 n2 c2) /\ W'.cell? ⟨b + 1, 2, none⟩ = some (.slice d2 k2 e2)) :=
    hid fun W' h => ⟨(b0.ext0 (hEd.trans h)).cell 0 rfl, (b0.ext0 (hEd.trans h)).cell 1 rfl, (b0.ext0 (hEd.trans h)).cell 2 rfl, (b1.ext0 (hEd.trans h)).cell 0 rfl, (b1.ext0 (hEd.trans h)).cell 1 rfl, (b1.ext0 (hEd.trans h)).cell 2 rfl⟩
  have hny := hid (show hq (-y) <= 68719476736 by rw [hq_neg]; exact hly.out)
  have hsum : Hid (x + -y = x - y) := hid (Rat.sub_eq_add_neg x y).symm
  go_enter Tryz.func88, Tryz.ntmps88
  go_upto_region 1 with (fail)
  go_region_held3 (fun w' => w'.cell? ⟨b, 0, none⟩ = some (.bool s1) /\ w'.cell? ⟨b, 1, none⟩ = some (.slice a1 n1 c1) /\ w'.cell? ⟨b, 2, none⟩ = some (.slice d1 k1 e1) /\ w'.cell? ⟨b + 1, 0, none⟩ = some (.bool s2) /\ w'.cell? ⟨b + 1, 1, none⟩ = some (.slice a2 n2 c2) /\ w'.cell? ⟨b + 1, 2, none⟩ = some (.slice d2 k2 e2))
    (first | exact hS.out _ t1 | exact hS.out _ t2 | exact ⟨((hB.out.1.ext0 (hEd.trans t2)).ext (bb2.set3 _ _ _).2 (ob_other (by omega))).cell 0 rfl, ((hB.out.1.ext0 (hEd.trans t2)).ext (bb2.set3 _ _ _).2 (ob_other (by omega))).cell 1 rfl, ((hB.out.1.ext0 (hEd.trans t2)).ext (bb2.set3 _ _ _).2 (ob_other (by omega))).cell 2 rfl, ((hB.out.2.ext0 (hEd.trans t2)).ext (bb2.set3 _ _ _).2 (ob_other (by omega))).cell 0 rfl, ((hB.out.2.ext0 (hEd.trans t2)).ext (bb2.set3 _ _ _).2 (ob_other (by omega))).cell 1 rfl, ((hB.out.2.ext0 (hEd.trans t2)).ext (bb2.set3 _ _ _).2 (ob_other (by omega))).cell 2 rfl⟩ | go_keep)
    (first | (go_at_call 56; (with_reducible refine (rqneg (hidB X b 3) W.drew _ y hXd hvd).mono ?_); rintro ee w5 ⟨t1, u5, rfl, hu5⟩; have hX5 := HX.ext hXd t1; have hx5 := mkx QV.mono hud t1) | (go_at_call 50; (with_reducible refine (rqadd (hidB X b 3) w5 _ _ x (-y) hX5 hx5 (hu5.qv hny.out)).mono ?_); rintro ee w6 ⟨hE6, u6, rfl, hu6⟩; obtain ⟨s6, a6, n6, c6, d6, k6, e6, rfl⟩ := hu6.shape; have t2 := t1.trans hE6; have bb2 := b2.ext0 (hEd.trans t2); have g0 := bb2.cell 0 rfl; have g1 := bb2.cell 1 rfl; have g2 := bb2.cell 2 rfl; have f0 := bb2.frozen 0; have f1 := bb2.frozen 1; have f2 := bb2.frozen 2))
  rw [hsum.out] at hu6
  obtain ⟨q1, q2⟩ := bb2.set3 (.bool s6) (.slice a6 n6 c6) (.slice d6 k6 e6)
  have h7 := QC.mono _ _ _ _ le_unbox (QC.mono _ _ _ _ (le_store q2 (by omega) (by omega)) hu6)
  have hEf : Ext w _ := ExtX.box (hE.trans (hEd.trans t2)) q2 (by omega)
  clear g0 g1 g2 f0 f1 f2 k00 k01 k02 k10 k11 k12 hS hB
  go_wp2_with fail
  exact bodyPost_ret (results_box rfl rfl stRat q1 rfl) rfl ⟨hEf, _, rfl, h7⟩
set_option maxRecDepth 100000 in
theorem rqcompare (X : Nat -> Bool) (w : World) (u v : Value) (x y : Rat) (hX : HX X w) (hu : QV (mk X w) u x) (hv : QV (mk X w) v y) (hxy : hq (x - y) <= 68719476736) : Calls Tryz.prog 25 #[u, v] w (IntOut w (x - y).num.sign) := by
  have hlx := hid hu.hq
  have hly := hid hv.hq
  obtain ⟨s1, a1, n1, c1, d1, k1, e1, rfl⟩ := hu.shape
  obtain ⟨s2, a2, n2, c2, d2, k2, e2, rfl⟩ := hv.shape
  obtain ⟨W, hW, hE, b0, b1, hz⟩ := boxes2 w #[.bool s1, .slice a1 n1 c1, .slice d1 k1 e1] #[.bool s2, .slice a2 n2 c2, .slice d2 k2 e2] 38 38
  have hXW : HX (hidB X w.heap.size 2) W := hX.boxes hz
  have hu1 := QV.mono _ _ _ _ (le_boxes (nb := 2) hE) hu
  have hv1 := QV.mono _ _ _ _ (le_boxes (nb := 2) hE) hv
  obtain ⟨b, hb⟩ : ∃ b, w.heap.size = b := ⟨_, rfl⟩
  have hbw : w.heap.size <= b := by omega
  rw [hb] at b0 b1 hz hXW hu1 hv1
  have hEd : Ext W W.drew := (ExtX.refl W).drew
  have hXd : HX (hidB X b 2) W.drew := hXW
  have hud : QV (mk (hidB X b 2) W.drew) (.agg #[.bool s1, .slice a1 n1 c1, .slice d1 k1 e1]) x := hu1
  have hvd : QV (mk (hidB X b 2) W.drew) (.agg #[.bool s2, .slice a2 n2 c2, .slice d2 k2 e2]) y := hv1
  have k00 := b0.cell 0 rfl
  have k01 := b0.cell 1 rfl
  have k02 := b0.cell 2 rfl
  have k10 := b1.cell 0 rfl
  have k11 := b1.cell 1 rfl
  have k12 := b1.cell 2 rfl
  clear hu hv
  replace hxy := hid hxy
  obtain ⟨q, hq'⟩ : ∃ q : Rat, x - y = q := ⟨_, rfl⟩
  rw [hq'] at hxy |-
  have hq2 := hid hq'
  clear hq'
  go_enter Tryz.func25, Tryz.ntmps25
  go_wp2_with fail
  refine (rqsub (hidB X b 2) W _ _ x y hXW hu1 hv1).mono ?_
  rintro e w5 ⟨hE5, u5, rfl, hu5⟩
  rw [hq2.out] at hu5
  obtain ⟨s5, a5, n5, c5, d5, k5, e5, rfl⟩ := hu5.shape
  clear k00 k01 k02 k10 k11 k12
  go_wp2_with fail
  refine (rqsign (hidB X b 2) w5 _ q (hXW.ext hE5) (hu5.qv hxy.out)).mono ?_
  rintro e w6 ⟨hE6, rfl⟩
  go_wp2_with fail
  go_ret
  exact ⟨hE.trans (hE5.trans hE6), rfl⟩
set_option maxRecDepth 100000 in
theorem rqfraction (X : Nat -> Bool) (w : World) (a k : Int) (hX : HX X w) (h1 : -9223372036854775808 <= a) (h2 : a <= 9223372036854775807) (h3 : -9223372036854775808 <= k) (h4 : k <= 9223372036854775807) (hk : k ≠ 0) (ha : lg a.natAbs <= 274877906944) (hkl : lg k.natAbs <= 274877906944) : Calls Tryz.prog 19 #[.int .i64 a, .int .i64 k] w (ROut X w QC ((a : Rat) / (k : Rat))) := by
  obtain ⟨W, hW, hE, b0, hz⟩ := boxes1 w #[.bool false, .slice none 0 0, .slice none 0 0] 38
  have hXW : HX (hidB X w.heap.size 1) W := hX.boxes hz
  obtain ⟨b, hb⟩ : ∃ b, w.heap.size = b := ⟨_, rfl⟩
  have hbw : w.heap.size <= b := by omega
  rw [hb] at b0 hz hXW
  have hI := hid (And.intro (And.intro h1 h2) (And.intro (And.intro h3 h4) (And.intro hk (And.intro ha hkl))))
  clear h1 h2 h3 h4 hk ha hkl
  go_enter Tryz.func19, Tryz.ntmps19
  go_wp2_with fail
  refine (rifrom (hidB X b 1) W a hXW hI.out.1.1 hI.out.1.2).mono ?_
  rintro e1 w1 ⟨hE1, u1, rfl, hu1⟩
  have hX1 := hXW.ext hE1
  go_wp2_with fail
  refine (rifrom (hidB X b 1) w1 k hX1 hI.out.2.1.1 hI.out.2.1.2).mono ?_
  rintro e2 w2 ⟨hE2, u2, rfl, hu2⟩
  go_wp2_with fail
  refine (rqover (hidB X b 1) w2 _ _ a k (hX1.ext hE2) (mkx ZC.mono hu1 hE2) hu2 hI.out.2.2.2.1 hI.out.2.2.2.2 hI.out.2.2.1).mono ?_
  rintro e3 w3 ⟨hE3, u3, rfl, hu3⟩
  obtain ⟨s5, a5, n5, c5, d5, k5, e5, rfl⟩ := hu3.shape
  have bb := ((b0.ext0 hE1).ext0 hE2).ext0 hE3
  go_wp2_with ((with_reducible show wpList _ _ _ (⟨_, .store _ _ _, _, _, _, _⟩ :: _) _ _); refine st_storeBox stRat rfl rfl bb rfl rfl (one3 _ _ _ _ _ _ _) ?_; intro w7 r1 r2)
  have h7 := QC.mono _ _ _ _ le_unbox (QC.mono _ _ _ _ (le_store r2 (by omega) (by omega)) hu3)
  exact bodyPost_ret (results_box rfl rfl stRat r1 rfl) rfl ⟨ExtX.box (hE.trans (hE1.trans (hE2.trans hE3))) r2 (by omega), _, rfl, h7⟩
end Go.Proofs.YtgimdkjgaemcbaaGreat
namespace Go.Proofs.YtgimdkjgaemcbaaGreat
open Go.RowKit Go.Rep Go.Lim Go.Lin
end Go.Proofs.YtgimdkjgaemcbaaGreat
namespace Go.Proofs.YtgimdkjgaemcbaaGreat
open Go.RowKit Go.Rep Go.Lim Go.Lin
end Go.Proofs.YtgimdkjgaemcbaaGreat
namespace Go.Lin
end Go.Lin
namespace Go.Proofs.YtgimdkjgaemcbaaGreat
open Go.RowKit Go.Rep Go.Lim Go.Lin
end Go.Proofs.YtgimdkjgaemcbaaGreat
namespace Go.Rep
open Go.RowKit Go.Lim
abbrev Hdr := Option Addr × Nat × Nat
def HdR : Mem -> Value -> Hdr -> Prop := fun _ u x => u = .slice x.1 x.2.1 x.2.2
theorem HdR.elem : Elem HdR 1 := ⟨fun _ _ _ _ _ h => h, by rintro h u x rfl; rfl, by
  rintro h u x rfl c hc; simp [cellsL, Value.cells] at hc; subst hc; rfl, Nat.one_pos⟩
theorem HdR.one : OneCell HdR := by rintro h u x rfl; rfl
theorem OL.frame {α : Type} {R : Mem -> Value -> α -> Prop} {sz : Nat} {X : Nat -> Bool} {base : Nat} {e : TypeId} {w w' : World} {ao : Option Addr} {cap : Nat} {l : List α} (hR0 : ∀ h h' u x, R h u x -> R h' u x) {Y Z : Nat -> Bool} (h : OL R sz X base e w ao cap l) (hE : ExtX Y w w') (hY : ∀ k, ob ao k = true -> Y k = false) (hZ : ∀ k, ob ao k = true -> Z k = false) : OL R sz Z base e w' ao cap l := by
  have hb := fun k (hk : ob ao k = true) => h.block hk
  obtain ⟨hx, us, h1, h2, h22, h3, h5⟩ := h
  refine ⟨hZ, us, h1, h2, h22, ?_, fun i hi hi' => hR0 _ _ _ _ (h5 i hi hi')⟩
  refine ⟨h3.1, ?_⟩
  rcases h3.2 with h4 | ⟨g, c, cur, hv, h6, h7, h8⟩
  · exact .inl h4
  · refine .inr ⟨g, c, cur, hv, h6, ?_, h8⟩
    simp at hv
    obtain ⟨rfl, rfl⟩ := hv
    have hk : ob (some ⟨g, 0, none⟩) g = true := by simp [ob]
    rw [hE.block g (hb g hk).2 (hY g hk), h7]
def cut (Z : Nat -> Bool) (ao : Option Addr) : Nat -> Bool := fun k => Z k && !ob ao k
theorem cut_of {Z : Nat -> Bool} {ao : Option Addr} {k : Nat} (h : cut Z ao k = true) : Z k = true /\ ob ao k = false := by simpa [cut] using h
theorem cut_mk {Z : Nat -> Bool} {ao : Option Addr} {k : Nat} (h : Z k = true) (h2 : ob ao k = false) : cut Z ao k = true := by simp [cut, h, h2]
def obs (hs : List Hdr) : Nat -> Bool := fun k => hs.any fun h => ob h.1 k
theorem obs_get {hs : List Hdr} {i : Nat} (hi : i < hs.length) {k : Nat} (h : ob hs[i].1 k = true) : obs hs k = true := by
  unfold obs; rw [List.any_eq_true]; exact ⟨_, List.getElem_mem hi, h⟩
theorem obs_of {hs : List Hdr} {k : Nat} (h : obs hs k = true) : ∃ i, ∃ hi : i < hs.length, ob hs[i].1 k = true := by
  unfold obs at h; rw [List.any_eq_true] at h
  obtain ⟨x, hx, h2⟩ := h
  obtain ⟨i, hi, rfl⟩ := List.getElem_of_mem hx
  exact ⟨i, hi, h2⟩
def mz (X : Nat -> Bool) (ao : Option Addr) (hs : List Hdr) : Nat -> Bool := fun k => X k || ob ao k || obs hs k
def mb (ao : Option Addr) (hs : List Hdr) : Nat -> Bool := fun k => ob ao k || obs hs k
theorem mz_iff {X : Nat -> Bool} {ao : Option Addr} {hs : List Hdr} {k : Nat} : mz X ao hs k = true ↔ X k = true \/ ob ao k = true \/ obs hs k = true := by simp [mz, or_assoc]
theorem mb_iff {ao : Option Addr} {hs : List Hdr} {k : Nat} : mb ao hs k = true ↔ ob ao k = true \/ obs hs k = true := by simp [mb]
structure MO (X : Nat -> Bool) (base : Nat) (e1 e2 : TypeId) (w : World) (ao : Option Addr) (cap : Nat) (hs : List Hdr) (m : List (List Rat)) : Prop where
  outer : OL HdR 1 X base e1 w ao cap hs
  len : hs.length = m.length
  rlen : ∀ i (hi : i < hs.length) (hi' : i < m.length), hs[i].2.1 = m[i].length
  row : ∀ i (hi : i < hs.length) (hi' : i < m.length), OL QC 3 (cut (mz X ao hs) hs[i].1) base e2 w hs[i].1 hs[i].2.2 m[i]
  sep : ∀ i (hi : i < hs.length) k, ob hs[i].1 k = true -> X k = false /\ ob ao k = false
  dis : ∀ i j (hi : i < hs.length) (hj : j < hs.length), i ≠ j -> ∀ k, ob hs[i].1 k = true -> ob hs[j].1 k = false
section
variable {X : Nat -> Bool} {base : Nat} {e1 e2 : TypeId} {w w' : World} {ao : Option Addr} {cap : Nat} {hs : List Hdr} {m : List (List Rat)}
theorem MO.out_sep (h : MO X base e1 e2 w ao cap hs m) {k : Nat} (hk : ob ao k = true) : X k = false /\ obs hs k = false := by
  refine ⟨h.outer.1 k hk, ?_⟩
  cases ho : obs hs k
  · rfl
  · obtain ⟨i, hi, h2⟩ := obs_of ho
    have := (h.sep i hi k h2).2
    rw [hk] at this; simp at this
theorem MO.obs_sep (h : MO X base e1 e2 w ao cap hs m) {k : Nat} (hk : obs hs k = true) : X k = false /\ ob ao k = false := by
  obtain ⟨i, hi, h2⟩ := obs_of hk
  exact h.sep i hi k h2
theorem MO.mb_X (h : MO X base e1 e2 w ao cap hs m) {k : Nat} (hk : mb ao hs k = true) : X k = false := by
  rcases mb_iff.1 hk with a | a
  · exact (h.out_sep a).1
  · exact (h.obs_sep a).1
theorem MO.mb_block (h : MO X base e1 e2 w ao cap hs m) {k : Nat} (hk : mb ao hs k = true) : base <= k /\ k < w.heap.size := by
  rcases mb_iff.1 hk with a | a
  · exact h.outer.block a
  · obtain ⟨i, hi, h2⟩ := obs_of a
    exact (h.row i hi (by have := h.len; omega)).block h2
theorem MO.hz (h : MO X base e1 e2 w ao cap hs m) (hX : HX X w) : HX (mz X ao hs) w := fun k hk => by
  rcases mz_iff.1 hk with a | a
  · exact hX k a
  · exact (h.mb_block (mb_iff.2 a)).2
theorem MO.ext (h : MO X base e1 e2 w ao cap hs m) {Y X' : Nat -> Bool} (hE : ExtX Y w w') (hY : ∀ k, k < w.heap.size -> Y k = true -> X k = true) (hZ : ∀ k, k < w.heap.size -> X' k = true -> X k = true) : MO X' base e1 e2 w' ao cap hs m := by
  have hX' : ∀ k, mb ao hs k = true -> X' k = false := fun k hk => by
    cases hh : X' k
    · rfl
    · have := hZ k (h.mb_block hk).2 hh; rw [h.mb_X hk] at this; simp at this
  have hYm : ∀ k, mb ao hs k = true -> Y k = false := fun k hk => by
    cases hh : Y k
    · rfl
    · have := hY k (h.mb_block hk).2 hh; rw [h.mb_X hk] at this; simp at this
  refine ⟨h.outer.ext HdR.elem hE hY hZ, h.len, h.rlen, fun i hi hi' => ?_, fun i hi k hk => ⟨hX' k (mb_iff.2 (.inr (obs_get hi hk))), (h.sep i hi k hk).2⟩, h.dis⟩
  refine (h.row i hi hi').ext QC.elem hE (fun k hk hy => cut_mk (mz_iff.2 (.inl (hY k hk hy))) ?_) (fun k hk hy => ?_)
  · cases hb : ob hs[i].1 k
    · rfl
    · have := hYm k (mb_iff.2 (.inr (obs_get hi hb))); rw [hy] at this; simp at this
  · obtain ⟨h1, h2⟩ := cut_of hy
    refine cut_mk (mz_iff.2 ?_) h2
    rcases mz_iff.1 h1 with a | a
    · exact .inl (hZ k hk a)
    · exact .inr a
theorem MO.ext0 (h : MO X base e1 e2 w ao cap hs m) (hE : Ext w w') : MO X base e1 e2 w' ao cap hs m :=
  h.ext hE (fun k _ hk => by simp [noY] at hk) (fun _ _ h => h)
theorem MO.perm (h : MO X base e1 e2 w ao cap hs m) {hs' : List Hdr} {m' : List (List Rat)} (f : Nat -> Nat) (hf : ∀ i, i < hs.length -> f i < hs.length) (hinj : ∀ i j, i < hs.length -> j < hs.length -> f i = f j -> i = j) (hsurj : ∀ i, i < hs.length -> ∃ j, j < hs.length /\ f j = i)
    (hl : hs'.length = hs.length) (hlm : m'.length = m.length) (hh : ∀ i (hi : i < hs'.length) (hi' : f i < hs.length), hs'[i] = hs[f i]) (hm : ∀ i (hi : i < m'.length) (hi' : f i < m.length), m'[i] = m[f i])
    (hE : ExtX (ob ao) w w') (ho : OL HdR 1 X base e1 w' ao cap hs') : MO X base e1 e2 w' ao cap hs' m' := by
  have hlen := h.len
  have hobs : ∀ k, obs hs' k = true ↔ obs hs k = true := fun k => by
    constructor
    · intro hk
      obtain ⟨i, hi, h2⟩ := obs_of hk
      have hfi := hf i (by omega)
      rw [hh i hi hfi] at h2
      exact obs_get hfi h2
    · intro hk
      obtain ⟨i, hi, h2⟩ := obs_of hk
      obtain ⟨j, hj, rfl⟩ := hsurj i hi
      refine obs_get (i := j) (by omega) ?_
      rw [hh j (by omega) hi]; exact h2
  have hz : mz X ao hs' = mz X ao hs := by
    funext k
    rw [Bool.eq_iff_iff, mz_iff, mz_iff, hobs]
  refine ⟨ho, by omega, fun i hi hi' => ?_, fun i hi hi' => ?_, fun i hi k hk => ?_, fun i j hi hj hij k hk => ?_⟩
  · have hfi := hf i (by omega)
    rw [hh i hi hfi, hm i hi' (by omega)]; exact h.rlen _ hfi (by omega)
  · have hfi := hf i (by omega)
    rw [hz, hh i hi hfi, hm i hi' (by omega)]
    exact (h.row _ hfi (by omega)).ext QC.elem hE (fun k _ hk => cut_mk (mz_iff.2 (.inr (.inl hk))) (by
      cases hb : ob hs[f i].1 k
      · rfl
      · have := (h.sep _ hfi k hb).2; rw [hk] at this; simp at this)) (fun _ _ hk => hk)
  · have hfi := hf i (by omega)
    rw [hh i hi hfi] at hk; exact h.sep _ hfi k hk
  · have hfi := hf i (by omega)
    have hfj := hf j (by omega)
    rw [hh i hi hfi] at hk
    rw [hh j hj hfj]
    exact h.dis _ _ hfi hfj (fun e => hij (hinj i j (by omega) (by omega) e)) k hk
theorem MO.put (h : MO X base e1 e2 w ao cap hs m) {i : Nat} (hi : i < hs.length) (hn : hs[i].1 = none) {a : Option Addr} {c : Nat} {l : List Rat} {w1 : World} 
    (hE1 : Ext w w1) (hnew : ∀ k, ob a k = true -> w.heap.size <= k) (hr : OL QC 3 (mz X ao hs) base e2 w1 a c l) (hX : HX X w)
    (hE : ExtX (ob ao) w1 w') (ho : OL HdR 1 X base e1 w' ao cap (hs.set i (a, l.length, c))) : MO X base e1 e2 w' ao cap (hs.set i (a, l.length, c)) (m.set i l) := by
  have hlen := h.len
  have hE' : ExtX (ob ao) w w' := (ExtX.of hE1).trans hE
  have hobs : ∀ k, obs (hs.set i (a, l.length, c)) k = true ↔ obs hs k = true \/ ob a k = true := fun k => by
    constructor
    · intro hk
      obtain ⟨j, hj, h2⟩ := obs_of hk
      rw [List.getElem_set] at h2
      split at h2
      · exact .inr h2
      · exact .inl (obs_get (by simpa using hj) h2)
    · rintro (hk | hk)
      · obtain ⟨j, hj, h2⟩ := obs_of hk
        refine obs_get (i := j) (by simpa using hj) ?_
        rw [List.getElem_set]
        split
        · subst_vars; rw [hn] at h2; simp [ob] at h2
        · exact h2
      · refine obs_get (i := i) (by simpa using hi) ?_
        rw [List.getElem_set]; simpa using hk
  have hmz : ∀ k, mz X ao (hs.set i (a, l.length, c)) k = true ↔ mz X ao hs k = true \/ ob a k = true := fun k => by
    rw [mz_iff, mz_iff, hobs]
    constructor
    · rintro (h | h | h | h)
      · exact .inl (.inl h)
      · exact .inl (.inr (.inl h))
      · exact .inl (.inr (.inr h))
      · exact .inr h
    · rintro ((h | h | h) | h)
      · exact .inl h
      · exact .inr (.inl h)
      · exact .inr (.inr (.inl h))
      · exact .inr (.inr (.inr h))
  have hold : ∀ k, mb ao hs k = true -> ob a k = false := fun k hk => by
    cases hb : ob a k
    · rfl
    · have := hnew k hb; have := (h.mb_block hk).2; omega
  have hobao : ∀ k, ob a k = true -> ob ao k = false := fun k hk => by
    cases hb : ob ao k
    · rfl
    · have := hold k (mb_iff.2 (.inl hb)); rw [hk] at this; simp at this
  refine ⟨ho, by simp [hlen], fun j hj hj' => ?_, fun j hj hj' => ?_, fun j hj k hk => ?_, fun j q hj hq hjq k hk => ?_⟩
  · rw [List.getElem_set, List.getElem_set]
    split
    · rfl
    · exact h.rlen j (by simpa using hj) (by simpa using hj')
  · have hj0 : j < hs.length := by simpa using hj
    have hj1 : j < m.length := by simpa using hj'
    by_cases e : i = j
    · subst e
      simp only [List.getElem_set_self]
      refine hr.ext QC.elem hE (fun k _ hk => mz_iff.2 (.inr (.inl hk))) (fun k hk hz => ?_)
      obtain ⟨h1, h2⟩ := cut_of hz
      rcases (hmz k).1 h1 with h3 | h3
      · exact h3
      · rw [h2] at h3; simp at h3
    · simp only [List.getElem_set_ne e]
      refine (h.row j hj0 hj1).ext QC.elem hE' (fun k _ hk => cut_mk (mz_iff.2 (.inr (.inl hk))) ?_) (fun k hk hz => ?_)
      · cases hb : ob hs[j].1 k
        · rfl
        · have := (h.sep j hj0 k hb).2; rw [hk] at this; simp at this
      · obtain ⟨h1, h2⟩ := cut_of hz
        rcases (hmz k).1 h1 with h3 | h3
        · exact cut_mk h3 h2
        · have := hnew k h3; omega
  · rw [List.getElem_set] at hk
    split at hk
    · exact ⟨by
        cases hb : X k
        · rfl
        · have := hX k hb; have := hnew k hk; omega, hobao k hk⟩
    · exact h.sep j (by simpa using hj) k hk
  · have hj0 : j < hs.length := by simpa using hj
    have hq0 : q < hs.length := by simpa using hq
    rw [List.getElem_set] at hk |-
    split at hk
    · rw [if_neg (by omega)]
      cases hb : ob hs[q].1 k
      · rfl
      · have := hold k (mb_iff.2 (.inr (obs_get hq0 hb))); dsimp only at hk; rw [hk] at this; simp at this
    · split
      · exact hold k (mb_iff.2 (.inr (obs_get hj0 hk)))
      · exact h.dis j q hj0 hq0 hjq k hk
theorem MO.hdr (h : MO X base e1 e2 w ao cap hs m) (i : Nat) (hi : i < hs.length) : w.cell? (adr ao i) = some (.slice hs[i].1 hs[i].2.1 hs[i].2.2) /\ w.frozen? (adr ao i) = false := by
  obtain ⟨u, h1, h2, rfl⟩ := h.outer.cell HdR.one i hi
  exact ⟨h1, h2⟩
theorem MO.start {n : Nat} (ho : OL HdR 1 X base e1 w ao cap (List.replicate n (none, 0, 0))) (e2 : TypeId) : MO X base e1 e2 w ao cap (List.replicate n (none, 0, 0)) (List.replicate n []) := by
  refine ⟨ho, by simp, fun i hi hi' => by simp, fun i hi hi' => ?_, fun i hi k hk => ?_, fun i j hi hj hij k hk => ?_⟩
  · simp only [List.getElem_replicate]; exact OL.nil _ _ _ _ _ _
  · simp [ob] at hk
  · simp [ob] at hk
end
end Go.Rep
namespace Go.Rep
open Go.RowKit Go.Lim
section
variable {P : Program} {α : Type} {R : Mem -> Value -> α -> Prop} {X : Nat -> Bool} {base : Nat} {e : TypeId} {w : World} {ao : Option Addr} {cap : Nat} {l : List α}
theorem OL.cell3 (h : OL R 3 X base e w ao cap l) (i : Nat) (hi : i < l.length) {g o : Nat} (hg : adr ao (i * 3) = ⟨g, o, none⟩) :
    ∃ u v0 v1 v2, cellsL u = [v0, v1, v2] /\ (w.cell? ⟨g, o, none⟩ = some v0 /\ w.frozen? ⟨g, o, none⟩ = false) /\ (w.cell? ⟨g, o + 1, none⟩ = some v1 /\ w.frozen? ⟨g, o + 1, none⟩ = false) /\ (w.cell? ⟨g, o + 2, none⟩ = some v2 /\ w.frozen? ⟨g, o + 2, none⟩ = false) /\ R (mk (un X ao) w) u l[i] := by
  obtain ⟨us, h1, h2, _, h3, h5⟩ := h.cells
  have hi' : i < us.length := by omega
  have hsz : us[i].cells.size = 3 := h2 _ (List.getElem_mem _)
  have hlen : (cellsL us[i]).length = 3 := by simp [cellsL, hsz]
  obtain ⟨v0, v1, v2, hv⟩ : ∃ v0 v1 v2, cellsL us[i] = [v0, v1, v2] := by
    match hc : cellsL us[i], hlen with
    | [a, b, c], _ => exact ⟨a, b, c, rfl⟩
  have ha : ∀ j, adr ao (i * 3 + j) = ⟨g, o + j, none⟩ := fun j => by rw [<- adr_add, hg, Addr.add_lit]
  have key : ∀ j v, j < 3 -> (cellsL us[i])[j]? = some v -> w.cell? ⟨g, o + j, none⟩ = some v /\ w.frozen? ⟨g, o + j, none⟩ = false := fun j v hj hjv => by
    have hget := flat_get us i j hi' h2 hj
    rw [hjv] at hget
    have := h3 _ _ hget
    rwa [ha] at this
  exact ⟨us[i], v0, v1, v2, hv, key 0 v0 (by omega) (by rw [hv]; rfl), key 1 v1 (by omega) (by rw [hv]; rfl), key 2 v2 (by omega) (by rw [hv]; rfl), h5 i hi' hi⟩
theorem run_store1 {P : Program} {w : World} {a : Addr} {u v : Value} (h1 : v.oneCell' = true) (hc : w.cell? a = some u) (hf : w.frozen? a = false) : (store a v).run P w = .ok () (w.setCell a v) := by
  rw [run_store P w a v _ h1, hc]; simp [hf]
theorem OL.set3 {t : TypeId} (hT : TyI P t 3) (hR : Elem R 3) (h : OL R 3 X base e w ao cap l) (i : Nat) (hi : i < l.length) {g o : Nat} (hg : adr ao (i * 3) = ⟨g, o, none⟩) {v0 v1 v2 : Value} {x : α} (hu : R (mk (un X ao) w) (.agg #[v0, v1, v2]) x) :
    OL R 3 X base e (((w.setCell ⟨g, o, none⟩ v0).setCell ⟨g, o + 1, none⟩ v1).setCell ⟨g, o + 2, none⟩ v2) ao cap (l.set i x) /\ ExtX (ob ao) w (((w.setCell ⟨g, o, none⟩ v0).setCell ⟨g, o + 1, none⟩ v1).setCell ⟨g, o + 2, none⟩ v2) := by
  obtain ⟨ti, ht, hts⟩ := hT
  obtain ⟨_, c0, c1, c2, _, ⟨h0, f0⟩, ⟨h1, f1⟩, ⟨h2, f2⟩, _⟩ := h.cell3 i hi hg
  obtain ⟨w', hr, h3, h4⟩ := h.run_store (P := P) ht hts hR i hi _ x hu
  have hone := hR.one _ _ _ hu
  rw [hg] at hr
  have o0 : v0.oneCell' = true := hone v0 (by simp [cellsL, Value.cells])
  have o1 : v1.oneCell' = true := hone v1 (by simp [cellsL, Value.cells])
  have o2 : v2.oneCell' = true := hone v2 (by simp [cellsL, Value.cells])
  have a1 : (w.setCell ⟨g, o, none⟩ v0).cell? ⟨g, o + 1, none⟩ = some c1 := by rw [World.cell?_setCell_other (h := by simp)]; exact h1
  have a2 : ((w.setCell ⟨g, o, none⟩ v0).setCell ⟨g, o + 1, none⟩ v1).cell? ⟨g, o + 2, none⟩ = some c2 := by rw [World.cell?_setCell_other (h := by simp), World.cell?_setCell_other (h := by simp)]; exact h2
  have b1 : (w.setCell ⟨g, o, none⟩ v0).frozen? ⟨g, o + 1, none⟩ = false := by rw [World.frozen?_setCell]; exact f1
  have b2 : ((w.setCell ⟨g, o, none⟩ v0).setCell ⟨g, o + 1, none⟩ v1).frozen? ⟨g, o + 2, none⟩ = false := by rw [World.frozen?_setCell, World.frozen?_setCell]; exact f2
  have hw : w' = ((w.setCell ⟨g, o, none⟩ v0).setCell ⟨g, o + 1, none⟩ v1).setCell ⟨g, o + 2, none⟩ v2 := by
    have s0 := run_store1 (P := P) o0 h0 f0
    have s1 := run_store1 (P := P) o1 a1 b1
    have s2 := run_store1 (P := P) o2 a2 b2
    simp [storeVar, sizeOf, typeInfo, ht, hts, Value.cells, storeCells, Addr.add_lit, s0, s1, s2] at hr
    exact hr.symm
  subst hw
  exact ⟨h3, h4⟩
end
section
variable {X : Nat -> Bool} {base : Nat} {e1 e2 : TypeId} {w w' : World} {ao : Option Addr} {cap : Nat} {hs : List Hdr} {m : List (List Rat)}
theorem MO.old {α : Type} {R : Mem -> Value -> α -> Prop} (hR : Mono R) {u : Value} {x : α} {X0 : Nat -> Bool} {w0 : World} (h : MO X base e1 e2 w ao cap hs m) (hu : R (_root_.Go.Rep.mk X0 w0) u x) (hE : Ext w0 w) (hb : w0.heap.size <= base) (hX : ∀ k, k < w0.heap.size -> X k = true -> X0 k = true) : R (_root_.Go.Rep.mk (mz X ao hs) w) u x :=
  hR _ _ _ _ (mk_over hE (fun k _ hk => by simp [noY] at hk) fun k hk hz => by
    rcases mz_iff.1 hz with a | a
    · exact hX k hk a
    · have := (h.mb_block (mb_iff.2 a)).1; omega) hu
theorem MO.less {α : Type} {R : Mem -> Value -> α -> Prop} (hR : Mono R) {u : Value} {x : α} (_h : MO X base e1 e2 w ao cap hs m) (hu : R (_root_.Go.Rep.mk (mz X ao hs) w) u x) : R (_root_.Go.Rep.mk X w) u x :=
  hR _ _ _ _ (mk_sub fun _ _ hk => mz_iff.2 (.inl hk)) hu
theorem ob_mb {ao : Option Addr} {hs : List Hdr} {k : Nat} (h : mb ao hs k = false) : ob ao k = false /\ ∀ i (hi : i < hs.length), ob hs[i].1 k = false := by
  refine ⟨?_, fun i hi => ?_⟩
  · cases hb : ob ao k
    · rfl
    · rw [mb_iff.2 (.inl hb)] at h; simp at h
  · cases hb : ob hs[i].1 k
    · rfl
    · rw [mb_iff.2 (.inr (obs_get hi hb))] at h; simp at h
theorem ExtX.row {i : Nat} (hi : i < hs.length) (h : ExtX (ob hs[i].1) w w') : ExtX (mb ao hs) w w' := h.weaken fun _ _ hk => (ob_mb hk).2 i hi
theorem ExtX.outer (h : ExtX (ob ao) w w') : ExtX (mb ao hs) w w' := h.weaken fun _ _ hk => (ob_mb hk).1
end
end Go.Rep
namespace Go.Proofs.YtgimdkjgaemcbaaGreat
open Go.RowKit Go.Rep Go.Lim Go.Lin
end Go.Proofs.YtgimdkjgaemcbaaGreat
namespace Go.Lin
end Go.Lin
namespace Go.Proofs.YtgimdkjgaemcbaaGreat
open Go.RowKit Go.Rep Go.Lim Go.Lin
end Go.Proofs.YtgimdkjgaemcbaaGreat
namespace Go.Rep
open Go.RowKit Go.Lim
section
variable {P : Program} {ops : Array Oper} {Q : Exit -> Act -> World -> Prop} {rest : List Oper} {a : Act} {w : World}
variable {α : Type} {R : Mem -> Value -> α -> Prop} {sz : Nat} {X : Nat -> Bool} {base : Nat} {e : TypeId} {ao : Option Addr} {cap : Nat} {l : List α}
variable {d : Option Tmp} {ty : TypeId} {ps : String} {af : Array Edge}
theorem st_loadOL {t : TypeId} {x : Operand} {k : Nat} (hT : StructT P t sz) (i : Nat) (h : OL R sz X base e w ao cap l) (hi : i < l.length) (hx : a.eval x = .pointer (some (adr ao k))) (hk : k = i * sz) (hag : ∀ h u y, R h u y -> ∃ cs, u = .agg cs)
    (K : ∀ u, R (mk (un X ao) w) u l[i] -> wpList P ops Q rest (a.put d u) w) :
    wpList P ops Q (⟨d, .load t x, ty, ps, af, none⟩ :: rest) a w := by
  refine wpList_plain rfl fun K' hK' => ?_
  subst hk
  obtain ⟨fs, ti, h1, h2, h3⟩ := hT
  obtain ⟨us, p1, p2, _, p3, p5⟩ := h.cells
  have hi' : i < us.length := by omega
  have h6 := p5 i hi' hi
  obtain ⟨cs, hcs⟩ := hag _ _ _ h6
  have hsz : cs.toList.length = sz := by have := p2 us[i] (List.getElem_mem _); rw [hcs] at this; simpa [Value.cells] using this
  have hl := run_loadCells_list (P := P) w (adr ao (i * sz)) cs.toList (fun j v hj => by
    rw [adr_add]
    have hj1 : j < sz := by rw [<- hsz]; exact (List.getElem?_eq_some_iff.1 hj).1
    have hget := flat_get us i j hi' p2 hj1
    rw [hcs] at hget
    have hj2 : (cellsL (.agg cs))[j]? = some v := by simpa [cellsL, Value.cells] using hj
    rw [hj2] at hget
    exact (p3 _ _ hget).1)
  rw [hsz] at hl
  unfold Oper.wp
  simp [execOp, hx, Instr.loadAt, Instr.sureAddr, loadVar, isAgg, run_underlying h1, sizeOf, typeInfo, h2, h3, hl, Result.andThen]
  rw [hcs] at h6
  exact hK' _ _ (K _ h6)
end
theorem OL.rat {R : Mem -> Value -> Rat -> Prop} (hR : Shaped R) {X : Nat -> Bool} {base : Nat} {e : TypeId} {w : World} {ao : Option Addr} {cap : Nat} {l : List Rat} (h : OL R 3 X base e w ao cap l) (i : Nat) (hi : i < l.length) :
    ∃ g o sg a n c d k e, adr ao (i * 3) = ⟨g, o, none⟩ /\ ob ao g = true /\ Hid (∀ Y W', ExtX Y w W' -> Y g = false -> W'.cell? ⟨g, o, none⟩ = some (.bool sg) /\ W'.cell? ⟨g, o + 1, none⟩ = some (.slice a n c) /\ W'.cell? ⟨g, o + 2, none⟩ = some (.slice d k e)) /\ R (mk (un X ao) w) (.agg #[.bool sg, .slice a n c, .slice d k e]) l[i] := by
  obtain ⟨b0, o0, hb0⟩ := h.hd (by omega)
  have hg : adr ao (i * 3) = ⟨b0, o0 + i * 3, none⟩ := by rw [hb0]; rfl
  obtain ⟨u, v0, v1, v2, hu, ⟨h0, _⟩, ⟨h1, _⟩, ⟨h2, _⟩, h3⟩ := h.cell3 i hi hg
  obtain ⟨sg, a, n, c, d, k, e, rfl⟩ := hR _ _ _ h3
  simp only [cellsL, Value.cells, List.cons.injEq, and_true] at hu
  obtain ⟨rfl, rfl, rfl⟩ := hu
  exact ⟨_, _, sg, a, n, c, d, k, e, hg, by rw [hb0]; simp [ob], hid fun Y W' hE hY => ⟨hE.cellY h0 hY, hE.cellY h1 hY, hE.cellY h2 hY⟩, h3⟩
end Go.Rep
namespace Go.Proofs.YtgimdkjgaemcbaaGreat
open Go.RowKit Go.Rep Go.Lim Go.Lin
end Go.Proofs.YtgimdkjgaemcbaaGreat
namespace Go.Proofs.YtgimdkjgaemcbaaGreat
open Go.RowKit Go.Rep Go.Lim Go.Lin
end Go.Proofs.YtgimdkjgaemcbaaGreat
namespace Go.Lin
open Go.Lim
end Go.Lin
namespace Go.Proofs.YtgimdkjgaemcbaaGreat
open Go.RowKit Go.Rep Go.Lim Go.Lin
end Go.Proofs.YtgimdkjgaemcbaaGreat
namespace Go.Lin
open Go.Lim
end Go.Lin
