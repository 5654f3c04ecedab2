/- reference 03: over. Conditions: at most 2^38 digits. reference 03: FromInt, Sign, Neg. Conditions: at most 2^36 digits. reference 03: Add, Mul, Quo. Conditions: at most 2^36 digits. reference 06: Times, Plus. Conditions: at most 2^20 numbers of at most 2^36 digits. made: Mod, At, Number. Conditions: none but Go's own. reference 03: Sub, Compare, Fraction, Same. Conditions: at most 2^36 digits. made: Number, Matrix. Conditions: few rows and columns. reference 06: Take; made: Matrix, Vector, Sum. Conditions: at most 2^20 rows and columns. Sums, row operations, and the reduced form of a matrix, which is unique. Conditions: none. -/
import Derived.Test.YtjbhcniiioepgaaNuJ
namespace Go.Proofs.Ytjbhcniiioepgaa
open Go.RowKit Go.Rep Go.Lim

/-- The lowest form of z / k by the two parts' greatest common divisor. -/
theorem over_low (z k : Int) (hk : 0 < k) : ((z : Rat) / (k : Rat)).num = z / (Nat.gcd z.natAbs k.natAbs : Nat) ∧ (((z : Rat) / (k : Rat)).den : Int) = k / (Nat.gcd z.natAbs k.natAbs : Nat) := by
  have h := mk_pos z k hk
  have hk0 : k.natAbs ≠ 0 := by omega
  rw [← h, Rat.num_mkRat, Rat.den_mkRat]
  rw [if_neg hk0, if_neg hk0, Nat.gcd_comm k.natAbs]
  refine ⟨rfl, ?_⟩
  rw [Int.natCast_ediv]
  congr 1
  omega

set_option maxRecDepth 100000 in
set_option maxHeartbeats 1600000 in
theorem rqover (X : Nat → Bool) (w : World) (u v : Value) (x y : Int) (hX : HX X w) (hu : ZC (mk X w) u x) (hv : ZC (mk X w) v y) (hx : lg x.natAbs ≤ 274877906944) (hy : lg y.natAbs ≤ 274877906944) (hy0 : y ≠ 0) : Calls Try.prog 43 #[u, v] w (ROut X w QC ((x : Rat) / (y : Rat))) := by
  have hlx := hid hx
  have hly := hid hy
  obtain ⟨s1, a1, n1, c1, rfl⟩ := hu.shape
  obtain ⟨s2, a2, n2, c2, rfl⟩ := hv.shape
  obtain ⟨W, hW, hE, b0, b1, b2, hz⟩ := boxes3 w #[.bool s1, .slice a1 n1 c1] #[.bool s2, .slice a2 n2 c2] #[.bool false, .slice none 0 0, .slice none 0 0] 38 38 40
  have hXW : HX (hidB X w.heap.size 3) W := hX.boxes hz
  have hu1 := ZC.mono _ _ _ _ (le_boxes (nb := 3) hE) hu
  have hv1 := ZC.mono _ _ _ _ (le_boxes (nb := 3) hE) hv
  obtain ⟨b, hb⟩ : ∃ b, w.heap.size = b := ⟨_, rfl⟩
  have hbw : w.heap.size ≤ b := by omega
  rw [hb] at b0 b1 b2 hz hXW hu1 hv1
  have hvz := hv1.zv (Nat.le_trans hy (by decide))
  have huz := hu1.zv (Nat.le_trans hx (by decide))
  have k00 := b0.cell 0 rfl
  have k01 := b0.cell 1 rfl
  have k10 := b1.cell 0 rfl
  have k11 := b1.cell 1 rfl
  have h0 : 0 < y ∨ y < 0 := by omega
  obtain ⟨q, hq'⟩ : ∃ q : Rat, (x : Rat) / (y : Rat) = q := ⟨_, rfl⟩
  rw [hq']
  clear hu hv hx hy
  go_enter Try.func43, Try.ntmps43
  go_wp2_with fail
  refine (risign (hidB X b 3) W _ _ hXW hvz).mono ?_
  rintro e w5 ⟨hE5, rfl⟩
  have bb0 := b0.ext0 hE5
  have bb1 := b1.ext0 hE5
  have bb2 := b2.ext0 hE5
  clear k00 k01 k10 k11
  rcases h0 with h0 | h0
  · have hI2 : decide (y.sign < 0) = false := by rw [Int.sign_eq_one_of_pos h0]; rfl
    have hk : Hid (0 < y) := hid h0
    generalize y.sign = sgy at *
    have hzn := mkx ZC.mono hu1 hE5
    have hzd := mkx ZC.mono hv1 hE5
    have hXs := hXW.ext hE5
    have hEs := hE.trans hE5
    clear h0 hy0
    generalize hsz : s1 = sz at *
    generalize haz : a1 = az at *
    generalize hnz : n1 = nz at *
    generalize hcz : c1 = cz at *
    generalize hsk : s2 = sk at *
    generalize hak : a2 = ak at *
    generalize hnk : n2 = nk at *
    generalize hck : c2 = ck at *
    generalize hwz : w5 = ws at *
    generalize hxz : x = z at *
    generalize hyk : y = k at *
    have bz0 := bb0
    have bz1 := bb1
    have bz2 := bb2
    have bzn := hlx
    have bzk := hly
    have hres := hid hq'
    clear hq'
    have k00 := bz0.cell 0 rfl
    have k01 := bz0.cell 1 rfl
    have k10 := bz1.cell 0 rfl
    have k11 := bz1.cell 1 rfl
    have hgp := hid (Nat.gcd_pos_of_pos_right z.natAbs (show 0 < k.natAbs by have := hk.out; omega))
    have hgz := hid (show ((Nat.gcd z.natAbs k.natAbs : Nat) : Int) ∣ z from Int.ofNat_dvd_left.2 (Nat.gcd_dvd_left _ _))
    have hgk := hid (show ((Nat.gcd z.natAbs k.natAbs : Nat) : Int) ∣ k from Int.ofNat_dvd_left.2 (Nat.gcd_dvd_right _ _))
    have hgl := hid (show lg (Nat.gcd z.natAbs k.natAbs) ≤ 274877906944 from Nat.le_trans (lg_mono (Nat.gcd_le_right _ (by have := hk.out; omega))) bzk.out)
    have hlow := hid (over_low z k hk.out)
    obtain ⟨g, hg⟩ : ∃ g, Nat.gcd z.natAbs k.natAbs = g := ⟨_, rfl⟩
    rw [hg] at hgp hgz hgk hgl hlow
    replace hg := hid hg
    go_wp2_with fail
    refine (rigcd (hidB X b 3) ws _ _ _ _ hXs (hzn.zv (Nat.le_trans bzn.out (by decide))) (hzd.zv (Nat.le_trans bzk.out (by decide))) bzn.out bzk.out).mono ?_
    rintro e6 w6 ⟨hE6, ug, rfl, hug⟩
    rw [hg.out] at hug
    obtain ⟨ag, cg, lgd, rfl, g1, g2, g3⟩ := hug
    have bg := Bx.new w6 #[.bool false, .slice none 0 0] 38
    have hXg := hXs.ext hE6
    clear k00 k01 k10 k11
    go_wp2_with ((with_reducible show wpList _ _ _ (⟨_, .store _ _ _, _, _, _, _⟩ :: _) _ _); refine st_storeBox stInt rfl rfl bg rfl rfl (one2 _ _ _ _) ?_; intro w7 r1 r2; have hE7 : Ext w6 w7 := ExtX.box ((ExtX.refl w6).alloc _) r2 (Nat.le_refl _); have t7 := hE6.trans hE7; have k00 := (bz0.ext0 t7).cell 0 rfl; have k01 := (bz0.ext0 t7).cell 1 rfl; have k50 := r1.cell 0 rfl; have k51 := r1.cell 1 rfl)
    have hX7 := (hXg.ext hE7)
    have hug7 : ZC (mk (hidB X b 3) w7) (.agg #[.bool false, .slice ag lgd.length cg]) (g : Int) := NC.zc (NC.mono _ _ _ _ (mk_ext hE7) ⟨ag, cg, lgd, rfl, g1, g2, g3⟩)
    have hz7 := mkx ZC.mono hzn t7
    have hgl2 : Hid (lg ((g : Int)).natAbs ≤ 274877906944) := hid (by rw [Int.natAbs_natCast]; exact hgl.out)
    have hgpI : Hid ((0 : Int) < (g : Int)) := hid (by have := hgp.out; omega)
    refine (ridiv (hidB X b 3) w7 _ _ z g hX7 (hz7.zv (Nat.le_trans bzn.out (by decide))) (hug7.zv (Nat.le_trans hgl2.out (by decide))) bzn.out hgl2.out hgpI.out hgz.out).mono ?_
    rintro e8 w8 ⟨hE8, up, sv, av, nv, cv, rfl, hup⟩
    obtain ⟨sp, ap, np, cp, rfl⟩ := hup.shape
    obtain ⟨W8, hW8, hEb8, bp, br, hz8⟩ := boxes2 w8 #[.bool false, .slice none 0 0] #[.bool false, .slice none 0 0] 38 38
    subst hW8
    clear k00 k01 k50 k51
    go_wp2_with ((with_reducible show wpList _ _ _ (⟨_, .store _ _ _, _, _, _, _⟩ :: _) _ _); first | (refine st_storeBox stInt rfl rfl bp rfl rfl (one2 _ _ _ _) ?_; intro w9 p1 p2; have br' := br.ext p2 (ob_other (by omega))) | (refine st_storeBox stInt rfl rfl br' rfl rfl (one2 _ _ _ _) ?_; intro w10 p3 p4; have hE10 : Ext w8 w10 := ExtX.box (ExtX.box hEb8 p2 (Nat.le_refl _)) p4 (by omega); have t10 := t7.trans (hE8.trans hE10); have k10 := (bz1.ext0 t10).cell 0 rfl; have k11 := (bz1.ext0 t10).cell 1 rfl; have r10 := r1.ext0 (hE8.trans hE10); have k50 := r10.cell 0 rfl; have k51 := r10.cell 1 rfl; have p10 := p1.ext p4 (ob_other (by omega))))
    have hup10 := mkx ZC.mono hup hE10
    have hX10 := (hX7.ext hE8).ext hE10
    have hk10 := mkx ZC.mono hzd t10
    have hug10 := mkx ZC.mono (mkx ZC.mono hug7 hE8) hE10
    refine (ridiv (hidB X b 3) w10 _ _ k g hX10 (hk10.zv (Nat.le_trans bzk.out (by decide))) (hug10.zv (Nat.le_trans hgl2.out (by decide))) bzk.out hgl2.out hgpI.out hgk.out).mono ?_
    rintro e11 w11 ⟨hE11, uq, sv2, av2, nv2, cv2, rfl, huq⟩
    obtain ⟨sq, aq, nq, cq, rfl⟩ := huq.shape
    obtain ⟨W11, hW11, hEb11, bq, br2, hz11⟩ := boxes2 w11 #[.bool false, .slice none 0 0] #[.bool false, .slice none 0 0] 38 38
    subst hW11
    clear k10 k11 k50 k51 br' br
    go_wp2_with ((with_reducible show wpList _ _ _ (⟨_, .store _ _ _, _, _, _, _⟩ :: _) _ _); first | (refine st_storeBox stInt rfl rfl bq rfl rfl (one2 _ _ _ _) ?_; intro w12 p5 p6; have br' := br2.ext p6 (ob_other (by omega))) | (refine st_storeBox stInt rfl rfl br' rfl rfl (one2 _ _ _ _) ?_; intro w13 p7 p8; have hE13 : Ext w11 w13 := ExtX.box (ExtX.box hEb11 p6 (Nat.le_refl _)) p8 (by omega); have t13 := t10.trans (hE11.trans hE13); have q13 := p5.ext p8 (ob_other (by omega)); have k90 := q13.cell 0 rfl; have k91 := q13.cell 1 rfl; have f90 := q13.frozen 0; have f91 := q13.frozen 1; have p13 := p10.ext0 (hE11.trans hE13); have k60 := p13.cell 0 rfl; have k61 := p13.cell 1 rfl))
    have huq13 := mkx ZC.mono huq hE13
    have hup13 := mkx ZC.mono (mkx ZC.mono hup10 hE11) hE13
    have hmq := huq13.mag
    have hkq : Hid (lg (k / (g : Int)).natAbs ≤ 1099511627776) := hid (by
      have h1 := hlow.out.2
      have : (k / (g : Int)).natAbs ≤ k.natAbs := by
        have := Int.natAbs_ediv_le_natAbs k (g : Int); exact this
      exact Nat.le_trans (lg_mono this) (Nat.le_trans bzk.out (by decide)))
    have bz13 := bz2.ext0 t13
    have hEs13 := hEs.trans t13
    refine (rqone _ _ _ _ hmq hkq.out).mono ?_
    rintro e14 w14 ⟨rfl, rfl⟩
    have hkg : Hid ((q.den : Int) = k / (g : Int)) := hid (by rw [← hres.out]; exact hlow.out.2)
    have hzg : Hid (q.num = z / (g : Int)) := hid (by rw [← hres.out]; exact hlow.out.1)
    by_cases h1 : (k / (g : Int)).natAbs = 1
    · have hd1 : Hid (dn q = 0) := hid ((dn_zero q).2 (by have := hkg.out; have := q.den_pos; omega))
      rw [decide_eq_true h1]
      clear h1
      go_upto_region 8 with (fail)
      obtain ⟨m1, m2⟩ := setCell_block q13 (.slice none 0 0) (i := 1) (by simp)
      obtain ⟨w14, hw14⟩ : ∃ w14, w13.setCell ⟨w11.heap.size, 1, none⟩ (.slice none 0 0) = w14 := ⟨_, rfl⟩
      rw [hw14] at m1 m2 ⊢
      have hE14 : Ext w11 w14 := ExtX.box hE13 m2 (Nat.le_refl _)
      have t14 := t10.trans (hE11.trans hE14)
      have bz14 := bz2.ext0 t14
      have p14 := p10.ext0 (hE11.trans hE14)
      clear k60 k61 k90 k91 f90 f91
      have k60 : w14.cell? ⟨w8.heap.size, 0, none⟩ = some (.bool sp) := p14.cell 0 rfl
      have k61 : w14.cell? ⟨w8.heap.size, 1, none⟩ = some (.slice ap np cp) := p14.cell 1 rfl
      have k91 : w14.cell? ⟨w11.heap.size, 1, none⟩ = some (.slice none 0 0) := m1.cell 1 rfl
      have hup14 := mkx ZC.mono (mkx ZC.mono hup10 hE11) hE14
      go_wp2_with ((with_reducible show wpList _ _ _ (⟨_, .store _ _ _, _, _, _, _⟩ :: _) _ _); refine st_storeBox stRat rfl rfl bz14 rfl rfl (one3 _ _ _ _ _ _ _) ?_; intro w15 r3 r4)
      have hfz : ZC (mk (hidB X b 3) w14) (.agg #[.bool sp, .slice ap np cp]) q.num := by rw [hzg.out]; exact hup14
      have hfd : NC (mk (hidB X b 3) w14) (.slice none 0 0) (dn q) := by rw [hd1.out]; exact NC.zero _
      have h7 := QC.mono _ _ _ _ le_unbox (QC.mono _ _ _ _ (le_store r4 (by omega) (by omega)) (QC.of hfz hfd))
      exact bodyPost_ret (results_box rfl rfl stRat r3 rfl) rfl ⟨ExtX.box (hEs.trans t14) r4 (by omega), _, rfl, h7⟩
    · have hd1 : Hid (dn q = (k / (g : Int)).natAbs) := hid (by
        have h2 := hkg.out
        unfold dn; rw [if_neg (by omega)]; omega)
      rw [decide_eq_false h1]
      clear h1
      go_wp2_with ((with_reducible show wpList _ _ _ (⟨_, .store _ _ _, _, _, _, _⟩ :: _) _ _); refine st_storeBox stRat rfl rfl bz13 rfl rfl (one3 _ _ _ _ _ _ _) ?_; intro w15 r3 r4)
      have hfz : ZC (mk (hidB X b 3) w13) (.agg #[.bool sp, .slice ap np cp]) q.num := by rw [hzg.out]; exact hup13
      have hfd : NC (mk (hidB X b 3) w13) (.slice aq nq cq) (dn q) := by rw [hd1.out]; exact hmq
      have h7 := QC.mono _ _ _ _ le_unbox (QC.mono _ _ _ _ (le_store r4 (by omega) (by omega)) (QC.of hfz hfd))
      exact bodyPost_ret (results_box rfl rfl stRat r3 rfl) rfl ⟨ExtX.box hEs13 r4 (by omega), _, rfl, h7⟩
  · have hI2 : decide (y.sign < 0) = true := by rw [Int.sign_eq_neg_one_of_neg h0]; rfl
    have hkn : Hid (0 < -y) := hid (by omega)
    generalize y.sign = sgy at *
    have hEd : Ext w5 w5.drew := (ExtX.refl w5).drew
    have hXd : HX (hidB X b 3) w5.drew := HX.ext (HX.ext hXW hE5) hEd
    have hud : ZV (mk (hidB X b 3) w5.drew) (.agg #[.bool s1, .slice a1 n1 c1]) x := mkx ZV.mono huz (hE5.trans hEd)
    have hvd : ZV (mk (hidB X b 3) w5.drew) (.agg #[.bool s2, .slice a2 n2 c2]) y := mkx ZV.mono hvz (hE5.trans hEd)
    have k00 := bb0.cell 0 rfl
    have k01 := bb0.cell 1 rfl
    have k10 := bb1.cell 0 rfl
    have k11 := bb1.cell 1 rfl
    have hres0 : Hid (((-x : Int) : Rat) / ((-y : Int) : Rat) = q) := hid (by
      rw [← hq', Rat.intCast_neg, Rat.intCast_neg]; have : (y : Rat) ≠ 0 := by exact_mod_cast hy0
      grind)
    have bzn : Hid (lg (-x).natAbs ≤ 274877906944) := hid (by rw [Int.natAbs_neg]; exact hlx.out)
    have bzk : Hid (lg (-y).natAbs ≤ 274877906944) := hid (by rw [Int.natAbs_neg]; exact hly.out)
    clear h0 hy0 hq'
    go_upto_region 2 with (fail)
    go_region_with (first | (go_at_call 65; (with_reducible refine (rineg (hidB X b 3) w5.drew _ x hXd hud).mono ?_); rintro e w6 ⟨hE6, u6, rfl, s5, a5, c5, l5, rfl, h51, h52, h53⟩; have b60 := bb0.ext0 (hEd.trans hE6); have b61 := bb1.ext0 (hEd.trans hE6); have e00 := b60.cell 0 rfl; have e01 := b60.cell 1 rfl; have e10 := b61.cell 0 rfl; have e11 := b61.cell 1 rfl) | (go_at_call 65; (with_reducible refine (rineg (hidB X b 3) w6 _ y (HX.ext hXd hE6) (mkx ZV.mono hvd hE6)).mono ?_); rintro e w7 ⟨hE7, u7, rfl, s6, a6, c6, l6, rfl, h61, h62, h63⟩; have b70 := b60.ext0 hE7; have b71 := b61.ext0 hE7; have g00 := b70.cell 0 rfl; have g01 := b70.cell 1 rfl; have g10 := b71.cell 0 rfl; have g11 := b71.cell 1 rfl; have fr0 := b70.frozen 0; have fr1 := b70.frozen 1; have fr2 := b71.frozen 0; have fr3 := b71.frozen 1))
    all_goals
      obtain ⟨ws, hwf, bz0, bz1, qq2, hEs, q4⟩ := two_stores (X := X) (nb := 3) b70 b71 (hE.trans (hE5.trans ((hEd.trans hE6).trans hE7))) hbw (by omega) (.bool s5) (.slice a5 l5.length c5) (.bool s6) (.slice a6 l6.length c6)
      rw [hwf]
      have hzn : ZC (mk (hidB X b 3) ws) (.agg #[.bool s5, .slice a5 l5.length c5]) (-x) := ⟨s5, a5, c5, l5, rfl, h51, h52, (h53.mono (NatIn.mono _) (mk_ext hE7)).mono (NatIn.mono _) q4⟩
      have hzd : ZC (mk (hidB X b 3) ws) (.agg #[.bool s6, .slice a6 l6.length c6]) (-y) := ⟨s6, a6, c6, l6, rfl, h61, h62, h63.mono (NatIn.mono _) q4⟩
      have bz2 := qq2 (b + 1 + 1) _ _ (by omega) (by omega) (((bb2.ext0 hEd).ext0 hE6).ext0 hE7)
      have hzz : w.heap.size + 3 ≤ ws.heap.size := by have := bz2.lt; omega
      have hXs : HX (hidB X b 3) ws := hX.boxes' hEs (by have := hzz; omega) hzz
      clear e00 e01 e10 e11 g00 g01 g10 g11 fr0 fr1 fr2 fr3 k00 k01 k10 k11 hwf b60 b61 b70 b71 h51 h52 h53 h61 h62 h63
      have hres := hres0
      have hk := hkn
      generalize hsz : s5 = sz at *
      generalize haz : a5 = az at *
      generalize hnz : l5.length = nz at *
      generalize hcz : c5 = cz at *
      generalize hsk : s6 = sk at *
      generalize hak : a6 = ak at *
      generalize hnk : l6.length = nk at *
      generalize hck : c6 = ck at *
      generalize hxz : -x = z at *
      generalize hyk : -y = k at *
      have k00 := bz0.cell 0 rfl
      have k01 := bz0.cell 1 rfl
      have k10 := bz1.cell 0 rfl
      have k11 := bz1.cell 1 rfl
      have hgp := hid (Nat.gcd_pos_of_pos_right z.natAbs (show 0 < k.natAbs by have := hk.out; omega))
      have hgz := hid (show ((Nat.gcd z.natAbs k.natAbs : Nat) : Int) ∣ z from Int.ofNat_dvd_left.2 (Nat.gcd_dvd_left _ _))
      have hgk := hid (show ((Nat.gcd z.natAbs k.natAbs : Nat) : Int) ∣ k from Int.ofNat_dvd_left.2 (Nat.gcd_dvd_right _ _))
      have hgl := hid (show lg (Nat.gcd z.natAbs k.natAbs) ≤ 274877906944 from Nat.le_trans (lg_mono (Nat.gcd_le_right _ (by have := hk.out; omega))) bzk.out)
      have hlow := hid (over_low z k hk.out)
      obtain ⟨g, hg⟩ : ∃ g, Nat.gcd z.natAbs k.natAbs = g := ⟨_, rfl⟩
      rw [hg] at hgp hgz hgk hgl hlow
      replace hg := hid hg
      go_wp2_with fail
      refine (rigcd (hidB X b 3) ws _ _ _ _ hXs (hzn.zv (Nat.le_trans bzn.out (by decide))) (hzd.zv (Nat.le_trans bzk.out (by decide))) bzn.out bzk.out).mono ?_
      rintro e6 w6 ⟨hE6, ug, rfl, hug⟩
      rw [hg.out] at hug
      obtain ⟨ag, cg, lgd, rfl, g1, g2, g3⟩ := hug
      have bg := Bx.new w6 #[.bool false, .slice none 0 0] 38
      have hXg := hXs.ext hE6
      clear k00 k01 k10 k11
      go_wp2_with ((with_reducible show wpList _ _ _ (⟨_, .store _ _ _, _, _, _, _⟩ :: _) _ _); refine st_storeBox stInt rfl rfl bg rfl rfl (one2 _ _ _ _) ?_; intro w7 r1 r2; have hE7 : Ext w6 w7 := ExtX.box ((ExtX.refl w6).alloc _) r2 (Nat.le_refl _); have t7 := hE6.trans hE7; have k00 := (bz0.ext0 t7).cell 0 rfl; have k01 := (bz0.ext0 t7).cell 1 rfl; have k50 := r1.cell 0 rfl; have k51 := r1.cell 1 rfl)
      have hX7 := (hXg.ext hE7)
      have hug7 : ZC (mk (hidB X b 3) w7) (.agg #[.bool false, .slice ag lgd.length cg]) (g : Int) := NC.zc (NC.mono _ _ _ _ (mk_ext hE7) ⟨ag, cg, lgd, rfl, g1, g2, g3⟩)
      have hz7 := mkx ZC.mono hzn t7
      have hgl2 : Hid (lg ((g : Int)).natAbs ≤ 274877906944) := hid (by rw [Int.natAbs_natCast]; exact hgl.out)
      have hgpI : Hid ((0 : Int) < (g : Int)) := hid (by have := hgp.out; omega)
      refine (ridiv (hidB X b 3) w7 _ _ z g hX7 (hz7.zv (Nat.le_trans bzn.out (by decide))) (hug7.zv (Nat.le_trans hgl2.out (by decide))) bzn.out hgl2.out hgpI.out hgz.out).mono ?_
      rintro e8 w8 ⟨hE8, up, sv, av, nv, cv, rfl, hup⟩
      obtain ⟨sp, ap, np, cp, rfl⟩ := hup.shape
      obtain ⟨W8, hW8, hEb8, bp, br, hz8⟩ := boxes2 w8 #[.bool false, .slice none 0 0] #[.bool false, .slice none 0 0] 38 38
      subst hW8
      clear k00 k01 k50 k51
      go_wp2_with ((with_reducible show wpList _ _ _ (⟨_, .store _ _ _, _, _, _, _⟩ :: _) _ _); first | (refine st_storeBox stInt rfl rfl bp rfl rfl (one2 _ _ _ _) ?_; intro w9 p1 p2; have br' := br.ext p2 (ob_other (by omega))) | (refine st_storeBox stInt rfl rfl br' rfl rfl (one2 _ _ _ _) ?_; intro w10 p3 p4; have hE10 : Ext w8 w10 := ExtX.box (ExtX.box hEb8 p2 (Nat.le_refl _)) p4 (by omega); have t10 := t7.trans (hE8.trans hE10); have k10 := (bz1.ext0 t10).cell 0 rfl; have k11 := (bz1.ext0 t10).cell 1 rfl; have r10 := r1.ext0 (hE8.trans hE10); have k50 := r10.cell 0 rfl; have k51 := r10.cell 1 rfl; have p10 := p1.ext p4 (ob_other (by omega))))
      have hup10 := mkx ZC.mono hup hE10
      have hX10 := (hX7.ext hE8).ext hE10
      have hk10 := mkx ZC.mono hzd t10
      have hug10 := mkx ZC.mono (mkx ZC.mono hug7 hE8) hE10
      refine (ridiv (hidB X b 3) w10 _ _ k g hX10 (hk10.zv (Nat.le_trans bzk.out (by decide))) (hug10.zv (Nat.le_trans hgl2.out (by decide))) bzk.out hgl2.out hgpI.out hgk.out).mono ?_
      rintro e11 w11 ⟨hE11, uq, sv2, av2, nv2, cv2, rfl, huq⟩
      obtain ⟨sq, aq, nq, cq, rfl⟩ := huq.shape
      obtain ⟨W11, hW11, hEb11, bq, br2, hz11⟩ := boxes2 w11 #[.bool false, .slice none 0 0] #[.bool false, .slice none 0 0] 38 38
      subst hW11
      clear k10 k11 k50 k51 br' br
      go_wp2_with ((with_reducible show wpList _ _ _ (⟨_, .store _ _ _, _, _, _, _⟩ :: _) _ _); first | (refine st_storeBox stInt rfl rfl bq rfl rfl (one2 _ _ _ _) ?_; intro w12 p5 p6; have br' := br2.ext p6 (ob_other (by omega))) | (refine st_storeBox stInt rfl rfl br' rfl rfl (one2 _ _ _ _) ?_; intro w13 p7 p8; have hE13 : Ext w11 w13 := ExtX.box (ExtX.box hEb11 p6 (Nat.le_refl _)) p8 (by omega); have t13 := t10.trans (hE11.trans hE13); have q13 := p5.ext p8 (ob_other (by omega)); have k90 := q13.cell 0 rfl; have k91 := q13.cell 1 rfl; have f90 := q13.frozen 0; have f91 := q13.frozen 1; have p13 := p10.ext0 (hE11.trans hE13); have k60 := p13.cell 0 rfl; have k61 := p13.cell 1 rfl))
      have huq13 := mkx ZC.mono huq hE13
      have hup13 := mkx ZC.mono (mkx ZC.mono hup10 hE11) hE13
      have hmq := huq13.mag
      have hkq : Hid (lg (k / (g : Int)).natAbs ≤ 1099511627776) := hid (by
        have h1 := hlow.out.2
        have : (k / (g : Int)).natAbs ≤ k.natAbs := by
          have := Int.natAbs_ediv_le_natAbs k (g : Int); exact this
        exact Nat.le_trans (lg_mono this) (Nat.le_trans bzk.out (by decide)))
      have bz13 := bz2.ext0 t13
      have hEs13 := hEs.trans t13
      refine (rqone _ _ _ _ hmq hkq.out).mono ?_
      rintro e14 w14 ⟨rfl, rfl⟩
      have hkg : Hid ((q.den : Int) = k / (g : Int)) := hid (by rw [← hres.out]; exact hlow.out.2)
      have hzg : Hid (q.num = z / (g : Int)) := hid (by rw [← hres.out]; exact hlow.out.1)
      by_cases h1 : (k / (g : Int)).natAbs = 1
      · have hd1 : Hid (dn q = 0) := hid ((dn_zero q).2 (by have := hkg.out; have := q.den_pos; omega))
        rw [decide_eq_true h1]
        clear h1
        go_upto_region 8 with (fail)
        obtain ⟨m1, m2⟩ := setCell_block q13 (.slice none 0 0) (i := 1) (by simp)
        obtain ⟨w14, hw14⟩ : ∃ w14, w13.setCell ⟨w11.heap.size, 1, none⟩ (.slice none 0 0) = w14 := ⟨_, rfl⟩
        rw [hw14] at m1 m2 ⊢
        have hE14 : Ext w11 w14 := ExtX.box hE13 m2 (Nat.le_refl _)
        have t14 := t10.trans (hE11.trans hE14)
        have bz14 := bz2.ext0 t14
        have p14 := p10.ext0 (hE11.trans hE14)
        clear k60 k61 k90 k91 f90 f91
        have k60 : w14.cell? ⟨w8.heap.size, 0, none⟩ = some (.bool sp) := p14.cell 0 rfl
        have k61 : w14.cell? ⟨w8.heap.size, 1, none⟩ = some (.slice ap np cp) := p14.cell 1 rfl
        have k91 : w14.cell? ⟨w11.heap.size, 1, none⟩ = some (.slice none 0 0) := m1.cell 1 rfl
        have hup14 := mkx ZC.mono (mkx ZC.mono hup10 hE11) hE14
        go_wp2_with ((with_reducible show wpList _ _ _ (⟨_, .store _ _ _, _, _, _, _⟩ :: _) _ _); refine st_storeBox stRat rfl rfl bz14 rfl rfl (one3 _ _ _ _ _ _ _) ?_; intro w15 r3 r4)
        have hfz : ZC (mk (hidB X b 3) w14) (.agg #[.bool sp, .slice ap np cp]) q.num := by rw [hzg.out]; exact hup14
        have hfd : NC (mk (hidB X b 3) w14) (.slice none 0 0) (dn q) := by rw [hd1.out]; exact NC.zero _
        have h7 := QC.mono _ _ _ _ le_unbox (QC.mono _ _ _ _ (le_store r4 (by omega) (by omega)) (QC.of hfz hfd))
        exact bodyPost_ret (results_box rfl rfl stRat r3 rfl) rfl ⟨ExtX.box (hEs.trans t14) r4 (by omega), _, rfl, h7⟩
      · have hd1 : Hid (dn q = (k / (g : Int)).natAbs) := hid (by
          have h2 := hkg.out
          unfold dn; rw [if_neg (by omega)]; omega)
        rw [decide_eq_false h1]
        clear h1
        go_wp2_with ((with_reducible show wpList _ _ _ (⟨_, .store _ _ _, _, _, _, _⟩ :: _) _ _); refine st_storeBox stRat rfl rfl bz13 rfl rfl (one3 _ _ _ _ _ _ _) ?_; intro w15 r3 r4)
        have hfz : ZC (mk (hidB X b 3) w13) (.agg #[.bool sp, .slice ap np cp]) q.num := by rw [hzg.out]; exact hup13
        have hfd : NC (mk (hidB X b 3) w13) (.slice aq nq cq) (dn q) := by rw [hd1.out]; exact hmq
        have h7 := QC.mono _ _ _ _ le_unbox (QC.mono _ _ _ _ (le_store r4 (by omega) (by omega)) (QC.of hfz hfd))
        exact bodyPost_ret (results_box rfl rfl stRat r3 rfl) rfl ⟨ExtX.box hEs13 r4 (by omega), _, rfl, h7⟩
end Go.Proofs.Ytjbhcniiioepgaa

namespace Go.Proofs.Ytjbhcniiioepgaa
open Go.RowKit Go.Rep Go.Lim

theorem rqfrom (X : Nat → Bool) (w : World) (v : Int) (hX : HX X w) (h1 : -9223372036854775808 ≤ v) (h2 : v ≤ 9223372036854775807) : Calls Try.prog 22 #[.int .i64 v] w (ROut X w QC v) := by
  obtain ⟨W, hW, hE, b0, hz⟩ := boxes1 w #[.bool false, .slice none 0 0, .slice none 0 0] 40
  have hXW : HX (hidB X w.heap.size 1) W := hX.boxes hz
  obtain ⟨b, hb⟩ : ∃ b, w.heap.size = b := ⟨_, rfl⟩
  have hbw : w.heap.size ≤ b := by omega
  rw [hb] at b0 hz hXW
  have h1' := hid h1
  have h2' := hid h2
  clear h1 h2
  go_enter Try.func22, Try.ntmps22
  go_wp2_with fail
  refine (rifrom (hidB X b 1) W v hXW h1'.out h2'.out).mono ?_
  rintro e1 w1 ⟨hE1, u1, rfl, s6, a6, c6, l6, rfl, h61, h62, h63⟩
  have b1' := b0.ext0 hE1
  have hcq := CanQ.ofInt h62
  go_wp2_with ((with_reducible show wpList _ _ _ (⟨_, .store _ _ _, _, _, _, _⟩ :: _) _ _); refine st_storeBox stRat rfl rfl b1' rfl rfl (one3 _ _ _ _ _ _ _) ?_; intro w7 r1 r2)
  have h7 := (h63.mono (NatIn.mono _) (le_store r2 (by omega) (by omega))).mono (NatIn.mono _) le_unbox
  exact bodyPost_ret (results_box rfl rfl stRat r1 rfl) rfl ⟨ExtX.box (hE.trans hE1) r2 (by omega), _, rfl, s6, a6, c6, l6, none, 0, [], rfl, h61, Nat.le_refl _, hcq, h7, Sl.nil _ _ _ _⟩
end Go.Proofs.Ytjbhcniiioepgaa

namespace Go.Proofs.Ytjbhcniiioepgaa
open Go.RowKit Go.Rep Go.Lim

end Go.Proofs.Ytjbhcniiioepgaa

namespace Go.Proofs.Ytjbhcniiioepgaa
open Go.RowKit Go.Rep Go.Lim

end Go.Proofs.Ytjbhcniiioepgaa

namespace Go.Lin
open Go.Lim
/-- The number that 'made.Number' makes. -/
def numQ (v : Int) : Rat := ((v % 61 - 30 : Int) : Rat) / ((1 + (v.tdiv 61) % 4 : Int) : Rat)
def atL (l : List Int) (i : Nat) : Int := l.getD i 0
/-- The matrix that 'made.Matrix' makes. -/
def matL (r c : Nat) (raw : List Int) : List (List Rat) := (List.range r).map fun i => (List.range c).map fun j => numQ (atL raw (i * c + j))
theorem lg_small {n : Nat} (h : n < 100) : lg n ≤ 1 := by
  by_cases h0 : n = 0
  · subst h0; simp [lg_zero]
  · rw [lg_one_iff (by omega) (by omega)]; exact Nat.le_refl _
theorem numQ_hq (v : Int) : hq (numQ v) ≤ 2 := by
  refine Nat.le_trans (hq_div _ _) ?_
  have h1 := hq_int (v % 61 - 30) 1 (lg_small (by omega)) (by omega)
  have h2 := hq_int (1 + (v.tdiv 61) % 4) 1 (lg_small (by omega)) (by omega)
  omega
end Go.Lin
namespace Go.Proofs.Ytjbhcniiioepgaa
open Go.RowKit Go.Rep Go.Lim Go.Lin

theorem tmod_ge {k n : Int} (h3 : 0 < n) (h : ¬ k.tmod n < 0) : k.tmod n = k % n := by
  have h1 := Int.emod_add_mul_ediv k n
  have he := Int.emod_nonneg k (show n ≠ 0 by omega)
  have he2 := Int.emod_lt_of_pos k h3
  rw [Int.tmod_eq_emod] at h ⊢
  split
  · simp
  · rename_i h0
    rw [if_neg h0] at h
    omega
theorem tmod_lt {k n : Int} (h3 : 0 < n) (h : k.tmod n < 0) : k.tmod n + n = k % n := by
  have he := Int.emod_nonneg k (show n ≠ 0 by omega)
  rw [Int.tmod_eq_emod] at h ⊢
  split
  · rename_i h0; rw [if_pos h0] at h; omega
  · omega

theorem mod_any (w : World) (k n : Int) (h3 : 0 < n) (h4 : n ≤ 1000000) : Calls Try.prog 26 #[.int .i64 k, .int .i64 n] w (fun e w' => w' = w ∧ e = .returned (.int .i64 (k % n))) := by
  have hn0 : (n == 0) = false := beqF (by omega)
  have he := Int.emod_nonneg k (show n ≠ 0 by omega)
  have he2 := Int.emod_lt_of_pos k h3
  by_cases h : k.tmod n < 0
  · have hr := hid (tmod_lt h3 h)
    have hw : wrap64 (k.tmod n + n) = k.tmod n + n := IntWalk.wrap64_in _ (by rw [hr.out]; omega)
    clear he he2
    go_enter Try.func26, Try.ntmps26
    go_wp2_with fail
    go_ret
    exact ⟨rfl, ret_int (by first | (rw [hw]; exact hr.out) | exact hr.out)⟩
  · have hr := hid (tmod_ge h3 h)
    clear he he2
    go_enter Try.func26, Try.ntmps26
    go_wp2_with fail
    go_ret
    exact ⟨rfl, ret_int hr.out⟩

theorem at_any (X : Nat → Bool) (w : World) (ao : Option Addr) (l : List Int) (cap i : Nat) (hs : Sl (IntIn .i64) 1 (mk X w) ao l) (hi : i ≤ 1000000) : Calls Try.prog 11 #[.slice ao l.length cap, .int .i64 (i : Int)] w (fun e w' => w' = w ∧ e = .returned (.int .i64 (atL l i))) := by
  have hh := hs.hd
  by_cases h : i < l.length
  · have c1 := hs.int i h
    have hv : Hid (l[i] = atL l i) := hid (by simp [atL, List.getD_eq_getElem?_getD, h])
    have hI : (i : Int) < (l.length : Int) := by omega
    go_enter Try.func11, Try.ntmps11
    go_wp2_with (with_reducible refine up_ix1 slInt (by omega) (by assumption) ?_)
    go_ret
    exact ⟨rfl, ret_int hv.out⟩
  · have hv : Hid ((0 : Int) = atL l i) := hid (by simp [atL, List.getD_eq_getElem?_getD, h])
    have hI : ¬ (i : Int) < (l.length : Int) := by omega
    go_enter Try.func11, Try.ntmps11
    go_wp2_with fail
    go_ret
    exact ⟨rfl, ret_int hv.out⟩
end Go.Proofs.Ytjbhcniiioepgaa

namespace Go.Proofs.Ytjbhcniiioepgaa
open Go.RowKit Go.Rep Go.Lim

set_option maxRecDepth 100000 in
theorem rqfraction (X : Nat → Bool) (w : World) (a k : Int) (hX : HX X w) (h1 : -9223372036854775808 ≤ a) (h2 : a ≤ 9223372036854775807) (h3 : -9223372036854775808 ≤ k) (h4 : k ≤ 9223372036854775807) (hk : k ≠ 0) (ha : lg a.natAbs ≤ 274877906944) (hkl : lg k.natAbs ≤ 274877906944) : Calls Try.prog 25 #[.int .i64 a, .int .i64 k] w (ROut X w QC ((a : Rat) / (k : Rat))) := by
  obtain ⟨W, hW, hE, b0, hz⟩ := boxes1 w #[.bool false, .slice none 0 0, .slice none 0 0] 40
  have hXW : HX (hidB X w.heap.size 1) W := hX.boxes hz
  obtain ⟨b, hb⟩ : ∃ b, w.heap.size = b := ⟨_, rfl⟩
  have hbw : w.heap.size ≤ b := by omega
  rw [hb] at b0 hz hXW
  have hI := hid (And.intro (And.intro h1 h2) (And.intro (And.intro h3 h4) (And.intro hk (And.intro ha hkl))))
  clear h1 h2 h3 h4 hk ha hkl
  go_enter Try.func25, Try.ntmps25
  go_wp2_with fail
  refine (rifrom (hidB X b 1) W a hXW hI.out.1.1 hI.out.1.2).mono ?_
  rintro e1 w1 ⟨hE1, u1, rfl, hu1⟩
  have hX1 := hXW.ext hE1
  go_wp2_with fail
  refine (rifrom (hidB X b 1) w1 k hX1 hI.out.2.1.1 hI.out.2.1.2).mono ?_
  rintro e2 w2 ⟨hE2, u2, rfl, hu2⟩
  go_wp2_with fail
  refine (rqover (hidB X b 1) w2 _ _ a k (hX1.ext hE2) (mkx ZC.mono hu1 hE2) hu2 hI.out.2.2.2.1 hI.out.2.2.2.2 hI.out.2.2.1).mono ?_
  rintro e3 w3 ⟨hE3, u3, rfl, hu3⟩
  obtain ⟨s5, a5, n5, c5, d5, k5, e5, rfl⟩ := hu3.shape
  have bb := ((b0.ext0 hE1).ext0 hE2).ext0 hE3
  go_wp2_with ((with_reducible show wpList _ _ _ (⟨_, .store _ _ _, _, _, _, _⟩ :: _) _ _); refine st_storeBox stRat rfl rfl bb rfl rfl (one3 _ _ _ _ _ _ _) ?_; intro w7 r1 r2)
  have h7 := QC.mono _ _ _ _ le_unbox (QC.mono _ _ _ _ (le_store r2 (by omega) (by omega)) hu3)
  exact bodyPost_ret (results_box rfl rfl stRat r1 rfl) rfl ⟨ExtX.box (hE.trans (hE1.trans (hE2.trans hE3))) r2 (by omega), _, rfl, h7⟩
end Go.Proofs.Ytjbhcniiioepgaa

namespace Go.Proofs.Ytjbhcniiioepgaa
open Go.RowKit Go.Rep Go.Lim Go.Lin

set_option maxRecDepth 100000 in
theorem number_any (X : Nat → Bool) (w : World) (v : Int) (hX : HX X w) (h1 : -9223372036854775808 ≤ v) (h2 : v ≤ 9223372036854775807) : Calls Try.prog 10 #[.int .i64 v] w (ROut X w QC (numQ v)) := by
  obtain ⟨W, hW, hE, b0, hz⟩ := boxes1 w #[.bool false, .slice none 0 0, .slice none 0 0] 40
  have hXW : HX (hidB X w.heap.size 1) W := hX.boxes hz
  obtain ⟨b, hb⟩ : ∃ b, w.heap.size = b := ⟨_, rfl⟩
  have hbw : w.heap.size ≤ b := by omega
  rw [hb] at b0 hz hXW
  have ha1 := Int.emod_nonneg v (show (61 : Int) ≠ 0 by omega)
  have ha2 := Int.emod_lt_of_pos v (show (0 : Int) < 61 by omega)
  have hb1 := Int.emod_nonneg (v.tdiv 61) (show (4 : Int) ≠ 0 by omega)
  have hb2 := Int.emod_lt_of_pos (v.tdiv 61) (show (0 : Int) < 4 by omega)
  have hdef : Hid (((v % 61 - 30 : Int) : Rat) / ((1 + (v.tdiv 61) % 4 : Int) : Rat) = numQ v) := hid rfl
  have hw3 : wrap64 (v.tdiv 61) = v.tdiv 61 := IntWalk.wrap64_in _ (by
    have := Int.tdiv_mul_le v (show (61:Int) ≠ 0 by omega)
    rcases Int.le_total 0 v with h | h
    · rw [Int.tdiv_eq_ediv_of_nonneg h]; omega
    · have h5 : v.tdiv 61 = -((-v) / 61) := by
        rw [← Int.neg_neg v, Int.neg_tdiv, Int.neg_neg, Int.tdiv_eq_ediv_of_nonneg (by omega)]
      rw [h5]; omega)
  obtain ⟨x, hx⟩ : ∃ x, v % 61 = x := ⟨_, rfl⟩
  obtain ⟨q, hq⟩ : ∃ q, v.tdiv 61 = q := ⟨_, rfl⟩
  rw [hq] at hw3 hb1 hb2 hdef
  obtain ⟨y, hy⟩ : ∃ y, q % 4 = y := ⟨_, rfl⟩
  rw [hx] at ha1 ha2 hdef
  rw [hy] at hb1 hb2 hdef
  have hx' := hid hx
  have hq' := hid hq
  have hy' := hid hy
  have hw1 : wrap64 (x - 30) = x - 30 := IntWalk.wrap64_in _ (by omega)
  have hw2 : wrap64 (1 + y) = 1 + y := IntWalk.wrap64_in _ (by omega)
  have hI := hid (And.intro h1 h2)
  clear h1 h2 hx hy
  go_enter Try.func10, Try.ntmps10
  go_wp2_with fail
  refine (mod_any W v 61 (by omega) (by omega)).mono ?_
  rintro e1 w1 ⟨rfl, rfl⟩
  rw [hx'.out]
  go_wp2_with fail
  refine (mod_any w1 q 4 (by omega) (by omega)).mono ?_
  rintro e2 w2 ⟨rfl, rfl⟩
  rw [hy'.out]
  go_wp2_with fail
  refine (rqfraction (hidB X b 1) w2 (x - 30) (1 + y) hXW (by omega) (by omega) (by omega) (by omega) (by omega) (Nat.le_trans (lg_small (by omega)) (by decide)) (Nat.le_trans (lg_small (by omega)) (by decide))).mono ?_
  rintro e3 w3 ⟨hE3, u3, rfl, hu3⟩
  rw [hdef.out] at hu3
  obtain ⟨s5, a5, n5, c5, d5, k5, e5, rfl⟩ := hu3.shape
  have bb := b0.ext0 hE3
  go_wp2_with ((with_reducible show wpList _ _ _ (⟨_, .store _ _ _, _, _, _, _⟩ :: _) _ _); refine st_storeBox stRat rfl rfl bb rfl rfl (one3 _ _ _ _ _ _ _) ?_; intro w7 r1 r2)
  have h7 := QC.mono _ _ _ _ le_unbox (QC.mono _ _ _ _ (le_store r2 (by omega) (by omega)) hu3)
  exact bodyPost_ret (results_box rfl rfl stRat r1 rfl) rfl ⟨ExtX.box (hE.trans hE3) r2 (by omega), _, rfl, h7⟩
end Go.Proofs.Ytjbhcniiioepgaa

namespace Go.Proofs.Ytjbhcniiioepgaa
open Go.RowKit Go.Rep Go.Lim Go.Lin

/-- A matrix whose outer slice the call itself made. -/
def TkOut (X : Nat → Bool) (w : World) (l : List (List Rat)) (e : Ending) (w' : World) : Prop := Ext w w' ∧ ∃ oo co, e = .returned (.slice oo l.length co) ∧ OL RC 1 X w.heap.size 30 w' oo co l

theorem wrap_add {p j : Nat} (h : p + j ≤ 1000000) : wrap64 ((p : Int) + (j : Int)) = ((p + j : Nat) : Int) := by
  rw [IntWalk.wrap64_in _ (by omega)]; omega
theorem wrap_mul {i c p : Nat} (hp : i * c = p) (h : p ≤ 1000000) : wrap64 ((i : Int) * (c : Int)) = (p : Int) := by
  rw [← Int.natCast_mul, hp]; exact IntWalk.wrap64_in _ (by omega)
theorem matL_len (r c : Nat) (raw : List Int) : (matL r c raw).length = r := by simp [matL]
theorem matL_row (r c : Nat) (raw : List Int) (i : Nat) (hi : i < r) (h : i < (matL r c raw).length) : (matL r c raw)[i] = (List.range c).map fun j => numQ (atL raw (i * c + j)) := by simp [matL]

set_option maxRecDepth 100000 in
theorem matrix_any (X : Nat → Bool) (w : World) (r c : Nat) (ao : Option Addr) (raw : List Int) (cap : Nat) (hX : HX X w) (hs : Sl (IntIn .i64) 1 (mk X w) ao raw) (hr : r ≤ 900) (hc : c ≤ 900) (hraw : ∀ x ∈ raw, -9223372036854775808 ≤ x ∧ x ≤ 9223372036854775807) : Calls Try.prog 4 #[.int .i64 (r : Int), .int .i64 (c : Int), .slice ao raw.length cap] w (ROut X w MC (matL r c raw)) := by
  obtain ⟨M, hM⟩ : ∃ M, matL r c raw = M := ⟨_, rfl⟩
  have hMl : Hid (M.length = r) := hid (by rw [← hM, matL_len])
  have hMr : Hid (∀ i (hi : i < r) (h : i < M.length), M[i] = (List.range c).map fun j => numQ (atL raw (i * c + j))) := hid fun i hi h => by subst hM; exact matL_row r c raw i hi h
  have hat : Hid (∀ i, -9223372036854775808 ≤ atL raw i ∧ atL raw i ≤ 9223372036854775807) := hid fun i => by
    unfold atL
    by_cases h : i < raw.length
    · simp only [List.getD_eq_getElem?_getD, List.getElem?_eq_getElem h, Option.getD_some]; exact hraw _ (List.getElem_mem h)
    · simp only [List.getD_eq_getElem?_getD, List.getElem?_eq_none (Nat.le_of_not_lt h), Option.getD_none]; omega
  have hMl2 : M.length ≤ r := by rw [hMl.out]; exact Nat.le_refl _
  have hMl3 : r ≤ M.length := by rw [hMl.out]; exact Nat.le_refl _
  rw [hM]
  clear hM hraw
  go_enter Try.func4, Try.ntmps4
  go_wp2_with fail
  go_loopw [7, 8] (fun o cc wr => ∃ (i : Nat) (oo : Option Addr) (co : Nat), cc = .int .i64 i ∧ o = .slice oo i co ∧ i ≤ r ∧ OL RC 1 X w.heap.size 30 wr oo co (M.take i) ∧ Ext w wr) (fun _ cc _ => r - (intOf cc).toNat)
  case atStart => exact ⟨0, none, 0, rfl, rfl, Nat.zero_le _, OL.nil _ _ _ _ _ _, ExtX.refl _⟩
  case round =>
    obtain ⟨i, oo, co, rfl, rfl, hi, hO, hE⟩ := hrel
    have hXr : HX X wr := hX.ext hE
    have hXu : HX (un X oo) wr := hO.unX hXr
    have hbase := hE.size
    by_cases hlt : i < r
    · have hltM : i < M.length := by omega
      have htk := hid (take_snoc M i hltM)
      have hln := hid (len_take (l := M) (i := i) (by omega))
      obtain ⟨R, hR⟩ : ∃ R, M[i] = R := ⟨_, rfl⟩
      have hRd := hMr.out i hlt hltM
      rw [hR] at hRd htk
      have hRl : Hid (R.length = c) := hid (by rw [hRd]; simp)
      have hRi : Hid (∀ j (hj : j < c) (h : j < R.length), R[j] = numQ (atL raw (i * c + j))) := hid fun j hj h => by subst hRd; simp
      have hRl2 : R.length ≤ c := by rw [hRl.out]; exact Nat.le_refl _
      have hRl3 : c ≤ R.length := by rw [hRl.out]; exact Nat.le_refl _
      have hic : i * c ≤ 810000 := Nat.le_trans (Nat.mul_le_mul (show i ≤ 900 by omega) hc) (by decide)
      obtain ⟨p, hp⟩ : ∃ p, i * c = p := ⟨_, rfl⟩
      rw [hp] at hRi hic
      have hw1 : wrap64 ((i : Int) * (c : Int)) = (p : Int) := wrap_mul hp (Nat.le_trans hic (by decide))
      clear hp hRd hR
      obtain ⟨wo, hwo⟩ : ∃ wo, wo = wr := ⟨_, rfl⟩
      subst hwo
      go_wp2_with fail
      go_loopw [9, 10] (fun o cc wx => ∃ (j : Nat) (ro : Option Addr) (cr : Nat), cc = .int .i64 j ∧ o = .slice ro j cr ∧ j ≤ c ∧ OL QC 3 (un X oo) wo.heap.size 40 wx ro cr (R.take j) ∧ Ext wo wx) (fun _ cc _ => c - (intOf cc).toNat)
      case atStart => exact ⟨0, none, 0, rfl, rfl, Nat.zero_le _, OL.nil _ _ _ _ _ _, ExtX.refl _⟩
      case round =>
        obtain ⟨j, ro, cr, rfl, rfl, hj, hOr, hEr⟩ := hrel
        have hXx : HX (un X oo) wr := hXu.ext hEr
        have hXy : HX (un (un X oo) ro) wr := hOr.unX hXx
        have hbr := hEr.size
        by_cases hlj : j < c
        · have hljR : j < R.length := by omega
          have htj := hid (take_snoc R j hljR)
          have hlnj := hid (len_take (l := R) (i := j) (by omega))
          have hRj := hRi.out j hlj hljR
          rw [hRj] at htj
          have hv := hat.out (p + j)
          have hpj : p + j ≤ 1000000 := Nat.le_trans (Nat.add_le_add hic (Nat.le_of_lt (Nat.lt_of_lt_of_le hlj hc))) (by decide)
          have hw2 : wrap64 ((p : Int) + (j : Int)) = ((p + j : Nat) : Int) := wrap_add hpj
          obtain ⟨z, hz⟩ : ∃ z, p + j = z := ⟨_, rfl⟩
          have hzI : Hid ((p : Int) + (j : Int) = (z : Int)) := hid (by rw [← hz, Int.natCast_add])
          rw [hz] at hw2 hpj hv htj
          obtain ⟨y, hy⟩ : ∃ y, atL raw z = y := ⟨_, rfl⟩
          rw [hy] at hv htj
          have hy' := hid hy
          clear hy hRj hz
          have hs2 := hs.mono (IntIn.mono _) (mk_ext (hE.trans hEr))
          go_wp2_with fail
          rw [hzI.out]
          refine (at_any X wr ao raw cap z hs2 hpj).mono ?_
          rintro e w5 ⟨rfl, rfl⟩
          rw [hy'.out]
          go_wp2_with fail
          refine (number_any (un (un X oo) ro) w5 y hXy hv.1 hv.2).mono ?_
          rintro e w6 ⟨hE6, u6, rfl, hu6⟩
          obtain ⟨s6, a6, n6, c6, d6, k6, e6, rfl⟩ := hu6.shape
          have hO6 := hOr.ext0 QC.elem hE6
          have hb6 := hE6.size
          go_wp2_with (at_builtin; refine st_append1n (l := R.take j) slRat rfl QC.elem (by omega) (hXx.ext hE6) j hlnj.out rfl rfl hO6 (.agg #[.bool s6, .slice a6 n6 c6, .slice d6 k6 e6]) (numQ y) rfl hu6 (by omega) (by omega) ?_; intro oo2 co2 w7 hO7 hE7 hor)
          have hE8 := (hEr.trans hE6).own hO6 (Nat.le_refl _) hE7
          rw [htj.out] at hO7
          go_roundw
          case rel => exact ⟨j + 1, oo2, co2, by go_num, by go_num, by omega, hO7, hE8⟩
          case measure => simp [intOf]; omega
        · have hjc : j = c := by omega
          subst hjc
          rw [List.take_of_length_le (by omega)] at hOr
          have hcr := hOr.lenCap
          have hsR := hOr.sl QC.elem
          have hO6 := hO.ext0 RC.elem hEr
          have hRC : RC (mk (un X oo) wr) (.slice ro j cr) R := ⟨ro, cr, by rw [hRl.out], hcr, hsR⟩
          go_wp2_with (at_builtin; refine st_append1n (l := M.take i) slRats rfl RC.elem (by omega) (hXr.ext hEr) i hln.out rfl rfl hO6 (.slice ro j cr) R rfl hRC (by omega) (by omega) ?_; intro oo2 co2 w7 hO7 hE7 hor)
          have hE8 := (hE.trans hEr).own hO6 (Nat.le_refl _) hE7
          rw [htk.out] at hO7
          go_roundw
          case rel => exact ⟨i + 1, oo2, co2, by go_num, by go_num, by omega, hO7, hE8⟩
          case measure => simp [intOf]; omega
    · have hil : i = r := by omega
      subst hil
      rw [List.take_of_length_le (by omega)] at hO
      have hc := hO.lenCap
      have hs := hO.sl RC.elem
      go_wp2_with fail
      go_ret
      exact ⟨hE, _, rfl, oo, co, by rw [hMl.out]; rfl, hc, hs⟩

end Go.Proofs.Ytjbhcniiioepgaa

namespace Go.Lin
/-- A sum of n numbers. -/
def sm : Nat → (Nat → Rat) → Rat
  | 0, _ => 0
  | n + 1, f => sm n f + f n
theorem sm_congr {n : Nat} {f g : Nat → Rat} (h : ∀ i, i < n → f i = g i) : sm n f = sm n g := by
  induction n with
  | zero => rfl
  | succ n ih => unfold sm; rw [ih fun i hi => h i (by omega), h n (by omega)]
theorem sm_zero {n : Nat} {f : Nat → Rat} (h : ∀ i, i < n → f i = 0) : sm n f = 0 := by
  induction n with
  | zero => rfl
  | succ n ih => unfold sm; rw [ih fun i hi => h i (by omega), h n (by omega)]; grind
theorem sm_add (n : Nat) (f g : Nat → Rat) : sm n (fun i => f i + g i) = sm n f + sm n g := by
  induction n with
  | zero => unfold sm; grind
  | succ n ih => unfold sm; rw [ih]; grind
theorem sm_mul (n : Nat) (a : Rat) (f : Nat → Rat) : sm n (fun i => a * f i) = a * sm n f := by
  induction n with
  | zero => unfold sm; grind
  | succ n ih => unfold sm; rw [ih]; grind
theorem sm_comm (n m : Nat) (f : Nat → Nat → Rat) : sm n (fun i => sm m (fun j => f i j)) = sm m (fun j => sm n (fun i => f i j)) := by
  induction n with
  | zero => simp only [sm]; rw [sm_zero]; intros; rfl
  | succ n ih => simp only [sm]; rw [ih, sm_add]
/-- All but one or two numbers are 0. -/
theorem sm_one {n : Nat} {f : Nat → Rat} (k : Nat) (hk : k < n) (h : ∀ i, i < n → i ≠ k → f i = 0) : sm n f = f k := by
  induction n with
  | zero => omega
  | succ n ih =>
    unfold sm
    by_cases e : k = n
    · subst e; rw [sm_zero fun i hi => h i (by omega) (by omega)]; grind
    · rw [ih (by omega) fun i hi hik => h i (by omega) hik, h n (by omega) (by omega)]; grind
theorem sm_sub (n : Nat) (f g : Nat → Rat) : sm n (fun i => f i - g i) = sm n f - sm n g := by
  induction n with
  | zero => unfold sm; grind
  | succ n ih => unfold sm; rw [ih]; grind
theorem sm_one' {n : Nat} {f g : Nat → Rat} (k : Nat) (hk : k < n) (h : ∀ i, i < n → i ≠ k → f i = g i) (h2 : f k = g k) : sm n f = sm n g :=
  sm_congr fun i hi => by by_cases e : i = k
                          · subst e; exact h2
                          · exact h i hi e
theorem sm_two {n : Nat} {f g : Nat → Rat} (i k : Nat) (hi : i < n) (hk : k < n) (hik : i ≠ k) (h : ∀ r, r < n → r ≠ i → r ≠ k → f r = g r) (h2 : f i + f k = g i + g k) : sm n f = sm n g := by
  have e : sm n (fun r => f r - g r) = 0 := by
    have e1 : ∀ r, r < n → (fun r => f r - g r) r = (fun r => (if r = i then f i - g i else 0) + (if r = k then f k - g k else 0)) r := by
      intro r hr
      show f r - g r = _
      by_cases a : r = i
      · subst a; simp [hik]; grind
      · by_cases b : r = k
        · subst b; simp [a]; grind
        · simp [a, b]; rw [h r hr a b]; grind
    rw [sm_congr e1, sm_add, sm_one i hi (fun r _ hr => by simp [hr]), sm_one k hk (fun r _ hr => by simp [hr])]
    simp; grind
  rw [sm_sub] at e; grind

abbrev F2 := Nat → Nat → Rat
/-- Rows and columns that count agree. -/
def Eqm (n c : Nat) (f g : F2) : Prop := ∀ i, i < n → ∀ j, j < c → f i j = g i j

/-- x is sent to 0. -/
def Nul (n c : Nat) (f : F2) (x : Nat → Rat) : Prop := ∀ i, i < n → sm c (fun j => f i j * x j) = 0

/-- Row operations that lead from f to g; the determinant is multiplied by d. -/
inductive RE (n c : Nat) : F2 → F2 → Rat → Prop
  | same {f g : F2} (h : Eqm n c f g) : RE n c f g 1
  | swap {f g : F2} (i k : Nat) (hi : i < n) (hk : k < n) (hik : i ≠ k) (h1 : ∀ j, j < c → g i j = f k j) (h2 : ∀ j, j < c → g k j = f i j) (h3 : ∀ r, r < n → r ≠ i → r ≠ k → ∀ j, j < c → g r j = f r j) : RE n c f g (-1)
  | scale {f g : F2} (i : Nat) (a : Rat) (hi : i < n) (ha : a ≠ 0) (h1 : ∀ j, j < c → g i j = a * f i j) (h3 : ∀ r, r < n → r ≠ i → ∀ j, j < c → g r j = f r j) : RE n c f g a
  | add {f g : F2} (i k : Nat) (a : Rat) (hi : i < n) (hk : k < n) (hik : i ≠ k) (h1 : ∀ j, j < c → g i j = f i j + a * f k j) (h3 : ∀ r, r < n → r ≠ i → ∀ j, j < c → g r j = f r j) : RE n c f g 1
  | trans {f g h : F2} {a b : Rat} (h1 : RE n c f g a) (h2 : RE n c g h b) : RE n c f h (a * b)

theorem RE.ne {n c : Nat} {f g : F2} {d : Rat} (h : RE n c f g d) : d ≠ 0 := by
  induction h with
  | same => grind
  | swap => grind
  | scale => assumption
  | add => grind
  | trans _ _ ih1 ih2 => intro e; rcases Rat.mul_eq_zero.1 e with h | h <;> contradiction

theorem RE.nul {n c : Nat} {f g : F2} {d : Rat} (h : RE n c f g d) (x : Nat → Rat) : Nul n c f x ↔ Nul n c g x := by
  induction h with
  | same h => 
    constructor
    · intro hn i hi; rw [← hn i hi]; exact sm_congr fun j hj => by rw [h i hi j hj]
    · intro hn i hi; rw [← hn i hi]; exact sm_congr fun j hj => by rw [h i hi j hj]
  | swap i k hi hk hik h1 h2 h3 =>
    constructor
    · intro hn r hr
      by_cases a : r = i
      · subst a; rw [← hn k hk]; exact sm_congr fun j hj => by rw [h1 j hj]
      · by_cases b : r = k
        · subst b; rw [← hn i hi]; exact sm_congr fun j hj => by rw [h2 j hj]
        · rw [← hn r hr]; exact sm_congr fun j hj => by rw [h3 r hr a b j hj]
    · intro hn r hr
      by_cases a : r = i
      · subst a; rw [← hn k hk]; exact sm_congr fun j hj => by rw [h2 j hj]
      · by_cases b : r = k
        · subst b; rw [← hn i hi]; exact sm_congr fun j hj => by rw [h1 j hj]
        · rw [← hn r hr]; exact sm_congr fun j hj => by rw [h3 r hr a b j hj]
  | @scale f g i a hi ha h1 h3 =>
    have key : sm c (fun j => g i j * x j) = a * sm c (fun j => f i j * x j) := by
      rw [← sm_mul]; exact sm_congr fun j hj => by rw [h1 j hj]; grind
    constructor
    · intro hn r hr
      by_cases e : r = i
      · subst e; rw [key, hn r hr]; grind
      · rw [← hn r hr]; exact sm_congr fun j hj => by rw [h3 r hr e j hj]
    · intro hn r hr
      by_cases e : r = i
      · subst e; have := hn r hr; rw [key] at this; rcases Rat.mul_eq_zero.1 this with h | h
        · contradiction
        · exact h
      · rw [← hn r hr]; exact sm_congr fun j hj => by rw [h3 r hr e j hj]
  | @add f g i k a hi hk hik h1 h3 =>
    have key : sm c (fun j => g i j * x j) = sm c (fun j => f i j * x j) + a * sm c (fun j => f k j * x j) := by
      rw [← sm_mul, ← sm_add]; exact sm_congr fun j hj => by rw [h1 j hj]; grind
    constructor
    · intro hn r hr
      by_cases e : r = i
      · subst e; rw [key, hn r hr, hn k hk]; grind
      · rw [← hn r hr]; exact sm_congr fun j hj => by rw [h3 r hr e j hj]
    · intro hn r hr
      by_cases e : r = i
      · subst e
        have h4 := hn r hr; rw [key] at h4
        have h5 := hn k hk
        rw [show sm c (fun j => g k j * x j) = sm c (fun j => f k j * x j) from sm_congr fun j hj => by rw [h3 k hk (by omega) j hj]] at h5
        rw [h5] at h4; grind
      · rw [← hn r hr]; exact sm_congr fun j hj => by rw [h3 r hr e j hj]
  | trans _ _ ih1 ih2 => exact ih1.trans ih2

/-- Combination of rows. -/
def cmb (n : Nat) (f : F2) (y : Nat → Rat) (j : Nat) : Rat := sm n fun i => y i * f i j
/-- The rows are independent. -/
def LI (n c : Nat) (f : F2) : Prop := ∀ y : Nat → Rat, (∀ j, j < c → cmb n f y j = 0) → ∀ i, i < n → y i = 0

/-- What is a combination of g's rows is one of f's rows, by numbers that vanish only if those of g do. -/
theorem RE.li {n c : Nat} {f g : F2} {d : Rat} (h : RE n c f g d) (hf : LI n c f) : LI n c g := by
  induction h with
  | same h => 
    intro y hy
    exact hf y fun j hj => by rw [← hy j hj]; exact sm_congr fun i hi => by rw [h i hi j hj]
  | @swap f g i k hi hk hik h1 h2 h3 =>
    intro y hy
    have := hf (fun r => if r = i then y k else if r = k then y i else y r) fun j hj => by
      rw [← hy j hj]
      refine sm_two i k hi hk hik (fun r hr a b => ?_) ?_
      · simp [a, b, h3 r hr a b j hj]
      · simp [hik.symm, h1 j hj, h2 j hj]; grind
    intro r hr
    by_cases a : r = i
    · subst a; simpa [hik.symm] using this k hk
    · by_cases b : r = k
      · subst b; simpa using this i hi
      · simpa [a, b] using this r hr
  | @scale f g i a hi ha h1 h3 =>
    intro y hy
    have := hf (fun r => if r = i then a * y i else y r) fun j hj => by
      rw [← hy j hj]
      refine sm_one' i hi (fun r hr e => ?_) ?_
      · simp [e, h3 r hr e j hj]
      · simp [h1 j hj]; grind
    intro r hr
    by_cases e : r = i
    · subst e
      have h4 := this r hr
      simp only [if_true] at h4
      rcases Rat.mul_eq_zero.1 h4 with h4 | h4
      · contradiction
      · exact h4
    · simpa [e] using this r hr
  | @add f g i k a hi hk hik h1 h3 =>
    intro y hy
    have := hf (fun r => if r = k then y k + a * y i else y r) fun j hj => by
      rw [← hy j hj]
      refine sm_two i k hi hk hik (fun r hr a b => ?_) ?_
      · simp [b, h3 r hr a j hj]
      · simp [hik, h1 j hj, h3 k hk hik.symm j hj]; grind
    intro r hr
    have hyi : y i = 0 := by simpa [hik] using this i hi
    by_cases e : r = k
    · subst e
      have h4 := this r hr
      simp [hyi] at h4; grind
    · simpa [e] using this r hr
  | trans _ _ ih1 ih2 => exact ih2 (ih1 hf)

/-- The reduced form, with its pivots. -/
structure Rref (n c : Nat) (f : F2) (p : List Nat) : Prop where
  le : p.length ≤ n
  lt : ∀ i (hi : i < p.length), p[i] < c
  inc : ∀ i k (hik : i < k) (hk : k < p.length), p[i] < p[k]
  left : ∀ i (hi : i < p.length), ∀ j, j < p[i] → f i j = 0
  one : ∀ i (hi : i < p.length), f i p[i] = 1
  zero : ∀ k (hk : k < p.length), ∀ i, i < n → i ≠ k → f i p[k] = 0
  below : ∀ i, p.length ≤ i → i < n → ∀ j, j < c → f i j = 0

/-- The null vector of a column that is no pivot. -/
def nv (f : F2) (p : List Nat) (j : Nat) : Nat → Rat := fun x => if x = j then 1 else match p.findIdx? (· == x) with | some i => - f i j | none => 0

theorem Rref.idx {n c : Nat} {f : F2} {p : List Nat} (h : Rref n c f p) (i : Nat) (hi : i < p.length) : p.findIdx? (· == p[i]) = some i := by
  rw [List.findIdx?_eq_some_iff_getElem]
  refine ⟨hi, by simp, fun j hj => ?_⟩
  have := h.inc j i hj hi
  simp; omega
theorem idx_none {p : List Nat} {x : Nat} (h : x ∉ p) : p.findIdx? (· == x) = none := by
  rw [List.findIdx?_eq_none_iff]; intro y hy; simp; rintro rfl; exact h hy
theorem Rref.nv_piv {n c : Nat} {f : F2} {p : List Nat} (h : Rref n c f p) {j : Nat} (hj : j ∉ p) (i : Nat) (hi : i < p.length) : nv f p j p[i] = - f i j := by
  unfold nv
  rw [if_neg (by rintro e; exact hj (e ▸ List.getElem_mem _)), h.idx i hi]
theorem nv_self {f : F2} {p : List Nat} (j : Nat) : nv f p j j = 1 := by simp [nv]
theorem nv_free {f : F2} {p : List Nat} {j x : Nat} (hx : x ∉ p) (hj : x ≠ j) : nv f p j x = 0 := by
  unfold nv; rw [if_neg hj, idx_none hx]

/-- A reduced form's row times any x. -/
theorem Rref.row {n c : Nat} {f : F2} {p : List Nat} (h : Rref n c f p) (i : Nat) (hi : i < p.length) (x : Nat → Rat) : sm c (fun j => f i j * x j) = x p[i] + sm c (fun j => if j ∈ p then 0 else f i j * x j) := by
  have e : sm c (fun j => f i j * x j) = sm c (fun j => (if j = p[i] then x p[i] else 0) + (if j ∈ p then 0 else f i j * x j)) := by
    refine sm_congr fun j hj => ?_
    by_cases hp : j ∈ p
    · obtain ⟨k, hk, rfl⟩ := List.getElem_of_mem hp
      by_cases hki : i = k
      · subst hki; simp [h.one i hi]; grind
      · have hne : p[k] ≠ p[i] := by
          rcases Nat.lt_or_gt_of_ne hki with a | a
          · have := h.inc i k a hk; omega
          · have := h.inc k i a hi; omega
        simp [hne, h.zero k hk i (Nat.lt_of_lt_of_le hi h.le) hki]; grind
    · have hne : j ≠ p[i] := by rintro rfl; exact hp (List.getElem_mem _)
      simp [hp, hne]; grind
  rw [e, sm_add, sm_one p[i] (h.lt i hi) (fun j _ hj => by simp [hj])]
  simp

theorem Rref.nv_nul {n c : Nat} {f : F2} {p : List Nat} (h : Rref n c f p) {j : Nat} (hj : j ∉ p) (hjc : j < c) : Nul n c f (nv f p j) := by
  intro i hi
  by_cases hip : i < p.length
  · rw [h.row i hip, h.nv_piv hj i hip, sm_one j hjc]
    · simp [hj, nv_self]; grind
    · intro k _ hkj
      by_cases hp : k ∈ p
      · simp [hp]
      · simp [hp, nv_free hp hkj]
  · exact sm_zero fun k hk => by rw [h.below i (by omega) hi k hk]; grind

/-- The null vector of a column vanishes behind that column. -/
theorem Rref.nv_supp {n c : Nat} {f : F2} {p : List Nat} (h : Rref n c f p) {j : Nat} (hj : j ∉ p) {x : Nat} (hx : j < x) : nv f p j x = 0 := by
  by_cases hp : x ∈ p
  · obtain ⟨k, hk, rfl⟩ := List.getElem_of_mem hp
    rw [h.nv_piv hj k hk, h.left k hk j hx]; grind
  · exact nv_free hp (by omega)

theorem Rref.sub {n c : Nat} {f g : F2} {p q : List Nat} (hf : Rref n c f p) (hg : Rref n c g q) (hn : ∀ x, Nul n c f x → Nul n c g x) (j : Nat) (hj : j ∈ q) : j ∈ p := by
  refine Classical.byContradiction fun hjp => ?_
  obtain ⟨k, hk, rfl⟩ := List.getElem_of_mem hj
  have h1 := hn _ (hf.nv_nul hjp (hg.lt k hk)) k (Nat.lt_of_lt_of_le hk hg.le)
  rw [sm_one q[k] (hg.lt k hk)] at h1
  · rw [hg.one k hk, nv_self] at h1; grind
  · intro x _ hx
    rcases Nat.lt_or_gt_of_ne hx with a | a
    · rw [hg.left k hk x a]; grind
    · rw [hf.nv_supp hjp a]; grind

theorem inc_eq : ∀ (p q : List Nat), p.Pairwise (· < ·) → q.Pairwise (· < ·) → (∀ x, x ∈ p ↔ x ∈ q) → p = q
  | [], [], _, _, _ => rfl
  | [], b :: q, _, _, h => by have := (h b).2 (by simp); simp at this
  | a :: p, [], _, _, h => by have := (h a).1 (by simp); simp at this
  | a :: p, b :: q, hp, hq, h => by
    rw [List.pairwise_cons] at hp hq
    have hab : a = b := by
      have h1 := (h a).1 (by simp)
      have h2 := (h b).2 (by simp)
      simp at h1 h2
      rcases h1 with h1 | h1
      · exact h1
      · rcases h2 with h2 | h2
        · exact h2.symm
        · have := hq.1 a h1; have := hp.1 b h2; omega
    subst hab
    rw [inc_eq p q hp.2 hq.2]
    intro x
    have h3 := h x
    simp at h3
    constructor
    · intro hx
      have := hp.1 x hx
      rcases h3.1 (.inr hx) with e | e
      · omega
      · exact e
    · intro hx
      have := hq.1 x hx
      rcases h3.2 (.inr hx) with e | e
      · omega
      · exact e
theorem Rref.pw {n c : Nat} {f : F2} {p : List Nat} (h : Rref n c f p) : p.Pairwise (· < ·) := by
  rw [List.pairwise_iff_getElem]; intro i j hi hj hij; exact h.inc i j hij hj

/-- The reduced form is determined by what it sends to 0. -/
theorem Rref.unique {n c : Nat} {f g : F2} {p q : List Nat} (hf : Rref n c f p) (hg : Rref n c g q) (hn : ∀ x, Nul n c f x ↔ Nul n c g x) : p = q ∧ Eqm n c f g := by
  have hpq : p = q := inc_eq p q hf.pw hg.pw fun x => ⟨hg.sub hf (fun x h => (hn x).2 h) x, hf.sub hg (fun x h => (hn x).1 h) x⟩
  subst hpq
  refine ⟨rfl, fun i hi j hj => ?_⟩
  by_cases hip : i < p.length
  · by_cases hjp : j ∈ p
    · obtain ⟨k, hk, rfl⟩ := List.getElem_of_mem hjp
      by_cases e : i = k
      · subst e; rw [hf.one i hip, hg.one i hip]
      · rw [hf.zero k hk i hi e, hg.zero k hk i hi e]
    · have h1 := (hn _).1 (hf.nv_nul hjp hj) i hi
      rw [hg.row i hip, hf.nv_piv hjp i hip, sm_one j hj] at h1
      · simp [hjp, nv_self] at h1; grind
      · intro k _ hkj
        by_cases hp : k ∈ p
        · simp [hp]
        · simp [hp, nv_free hp hkj]
  · rw [hf.below i (by omega) hi j hj, hg.below i (by omega) hi j hj]
end Go.Lin
