/- Parts of a proof: each theorem states what it proves, and its conditions. -/
import Derived.Test.YtnnpfhoigmegcaaGreatFlF
namespace Go.Proofs.YtnnpfhoigmegcaaGreat
open Go.RowKit Go.Rep Go.Lim
theorem over_low (z k : Int) (hk : 0 < k) : ((z : Rat) / (k : Rat)).num = z / (Nat.gcd z.natAbs k.natAbs : Nat) /\ (((z : Rat) / (k : Rat)).den : Int) = k / (Nat.gcd z.natAbs k.natAbs : Nat) := by
  have h := mk_pos z k hk
  have hk0 : k.natAbs ≠ 0 := by omega
  rw [<- h, Rat.num_mkRat, Rat.den_mkRat]
  rw [if_neg hk0, if_neg hk0, Nat.gcd_comm k.natAbs]
  refine ⟨rfl, ?_⟩
  rw [Int.natCast_ediv]
  congr 1
  omega
set_option maxRecDepth 100000 in
set_option maxHeartbeats 1600000 in
theorem rqover (X : Nat -> Bool) (w : World) (u v : Value) (x y : Int) (hX : HX X w) (hu : ZC (mk X w) u x) (hv : ZC (mk X w) v y) (hx : lg x.natAbs <= 274877906944) (hy : lg y.natAbs <= 274877906944) (hy0 : y ≠ 0) : Calls Tryz.prog 119 #[u, v] w (ROut X w QC ((x : Rat) / (y : Rat))) := by
  have hlx := hid hx
  have hly := hid hy
  obtain ⟨s1, a1, n1, c1, rfl⟩ := hu.shape
  obtain ⟨s2, a2, n2, c2, rfl⟩ := hv.shape
  obtain ⟨W, hW, hE, b0, b1, b2, hz⟩ := boxes3 w #[.bool s1, .slice a1 n1 c1] #[.bool s2, .slice a2 n2 c2] #[.bool false, .slice none 0 0, .slice none 0 0] 39 39 41
  have hXW : HX (hidB X w.heap.size 3) W := hX.boxes hz
  have hu1 := ZC.mono _ _ _ _ (le_boxes (nb := 3) hE) hu
  have hv1 := ZC.mono _ _ _ _ (le_boxes (nb := 3) hE) hv
  obtain ⟨b, hb⟩ : ∃ b, w.heap.size = b := ⟨_, rfl⟩
  have hbw : w.heap.size <= b := by omega
  rw [hb] at b0 b1 b2 hz hXW hu1 hv1
  have hvz := hv1.zv (Nat.le_trans hy (by decide))
  have huz := hu1.zv (Nat.le_trans hx (by decide))
  have k00 := b0.cell 0 rfl
  have k01 := b0.cell 1 rfl
  have k10 := b1.cell 0 rfl
  have k11 := b1.cell 1 rfl
  have h0 : 0 < y \/ y < 0 := by omega
  obtain ⟨q, hq'⟩ : ∃ q : Rat, (x : Rat) / (y : Rat) = q := ⟨_, rfl⟩
  rw [hq']
  clear hu hv hx hy
  go_enter Tryz.func119, Tryz.ntmps119
  go_wp2_with fail
  refine (risign (hidB X b 3) W _ _ hXW hvz).mono ?_
  rintro e w5 ⟨hE5, rfl⟩
  have bb0 := b0.ext0 hE5
  have bb1 := b1.ext0 hE5
  have bb2 := b2.ext0 hE5
  clear k00 k01 k10 k11
  rcases h0 with h0 | h0
  · have hI2 : decide (y.sign < 0) = false := by rw [Int.sign_eq_one_of_pos h0]; rfl
    have hk : Hid (0 < y) := hid h0
    generalize y.sign = sgy at *
    have hzn := mkx ZC.mono hu1 hE5
    have hzd := mkx ZC.mono hv1 hE5
    have hXs := hXW.ext hE5
    have hEs := hE.trans hE5
    clear h0 hy0
    generalize hsz : s1 = sz at *
    generalize haz : a1 = az at *
    generalize hnz : n1 = nz at *
    generalize hcz : c1 = cz at *
    generalize hsk : s2 = sk at *
    generalize hak : a2 = ak at *
    generalize hnk : n2 = nk at *
    generalize hck : c2 = ck at *
    generalize hwz : w5 = ws at *
    generalize hxz : x = z at *
    generalize hyk : y = k at *
    have bz0 := bb0
    have bz1 := bb1
    have bz2 := bb2
    have bzn := hlx
    have bzk := hly
    have hres := hid hq'
    clear hq'
    have k00 := bz0.cell 0 rfl
    have k01 := bz0.cell 1 rfl
    have k10 := bz1.cell 0 rfl
    have k11 := bz1.cell 1 rfl
    have hgp := hid (Nat.gcd_pos_of_pos_right z.natAbs (show 0 < k.natAbs by have := hk.out; omega))
    have hgz := hid (show ((Nat.gcd z.natAbs k.natAbs : Nat) : Int) ∣ z from Int.ofNat_dvd_left.2 (Nat.gcd_dvd_left _ _))
    have hgk := hid (show ((Nat.gcd z.natAbs k.natAbs : Nat) : Int) ∣ k from Int.ofNat_dvd_left.2 (Nat.gcd_dvd_right _ _))
    have hgl := hid (show lg (Nat.gcd z.natAbs k.natAbs) <= 274877906944 from Nat.le_trans (lg_mono (Nat.gcd_le_right _ (by have := hk.out; omega))) bzk.out)
    have hlow := hid (over_low z k hk.out)
    obtain ⟨g, hg⟩ : ∃ g, Nat.gcd z.natAbs k.natAbs = g := ⟨_, rfl⟩
    rw [hg] at hgp hgz hgk hgl hlow
    replace hg := hid hg
    go_wp2_with fail
    refine (rigcd (hidB X b 3) ws _ _ _ _ hXs (hzn.zv (Nat.le_trans bzn.out (by decide))) (hzd.zv (Nat.le_trans bzk.out (by decide))) bzn.out bzk.out).mono ?_
    rintro e6 w6 ⟨hE6, ug, rfl, hug⟩
    rw [hg.out] at hug
    obtain ⟨ag, cg, lgd, rfl, g1, g2, g3⟩ := hug
    have bg := Bx.new w6 #[.bool false, .slice none 0 0] 39
    have hXg := hXs.ext hE6
    clear k00 k01 k10 k11
    go_wp2_with ((with_reducible show wpList _ _ _ (⟨_, .store _ _ _, _, _, _, _⟩ :: _) _ _); refine st_storeBox stInt rfl rfl bg rfl rfl (one2 _ _ _ _) ?_; intro w7 r1 r2; have hE7 : Ext w6 w7 := ExtX.box ((ExtX.refl w6).alloc _) r2 (Nat.le_refl _); have t7 := hE6.trans hE7; have k00 := (bz0.ext0 t7).cell 0 rfl; have k01 := (bz0.ext0 t7).cell 1 rfl; have k50 := r1.cell 0 rfl; have k51 := r1.cell 1 rfl)
    have hX7 := (hXg.ext hE7)
    have hug7 : ZC (mk (hidB X b 3) w7) (.agg #[.bool false, .slice ag lgd.length cg]) (g : Int) := NC.zc (NC.mono _ _ _ _ (mk_ext hE7) ⟨ag, cg, lgd, rfl, g1, g2, g3⟩)
    have hz7 := mkx ZC.mono hzn t7
    have hgl2 : Hid (lg ((g : Int)).natAbs <= 274877906944) := hid (by rw [Int.natAbs_natCast]; exact hgl.out)
    have hgpI : Hid ((0 : Int) < (g : Int)) := hid (by have := hgp.out; omega)
    refine (ridiv (hidB X b 3) w7 _ _ z g hX7 (hz7.zv (Nat.le_trans bzn.out (by decide))) (hug7.zv (Nat.le_trans hgl2.out (by decide))) bzn.out hgl2.out hgpI.out hgz.out).mono ?_
    rintro e8 w8 ⟨hE8, up, sv, av, nv, cv, rfl, hup⟩
    obtain ⟨sp, ap, np, cp, rfl⟩ := hup.shape
    obtain ⟨W8, hW8, hEb8, bp, br, hz8⟩ := boxes2 w8 #[.bool false, .slice none 0 0] #[.bool false, .slice none 0 0] 39 39
    subst hW8
    clear k00 k01 k50 k51
    go_wp2_with ((with_reducible show wpList _ _ _ (⟨_, .store _ _ _, _, _, _, _⟩ :: _) _ _); first | (refine st_storeBox stInt rfl rfl bp rfl rfl (one2 _ _ _ _) ?_; intro w9 p1 p2; have br' := br.ext p2 (ob_other (by omega))) | (refine st_storeBox stInt rfl rfl br' rfl rfl (one2 _ _ _ _) ?_; intro w10 p3 p4; have hE10 : Ext w8 w10 := ExtX.box (ExtX.box hEb8 p2 (Nat.le_refl _)) p4 (by omega); have t10 := t7.trans (hE8.trans hE10); have k10 := (bz1.ext0 t10).cell 0 rfl; have k11 := (bz1.ext0 t10).cell 1 rfl; have r10 := r1.ext0 (hE8.trans hE10); have k50 := r10.cell 0 rfl; have k51 := r10.cell 1 rfl; have p10 := p1.ext p4 (ob_other (by omega))))
    have hup10 := mkx ZC.mono hup hE10
    have hX10 := (hX7.ext hE8).ext hE10
    have hk10 := mkx ZC.mono hzd t10
    have hug10 := mkx ZC.mono (mkx ZC.mono hug7 hE8) hE10
    refine (ridiv (hidB X b 3) w10 _ _ k g hX10 (hk10.zv (Nat.le_trans bzk.out (by decide))) (hug10.zv (Nat.le_trans hgl2.out (by decide))) bzk.out hgl2.out hgpI.out hgk.out).mono ?_
    rintro e11 w11 ⟨hE11, uq, sv2, av2, nv2, cv2, rfl, huq⟩
    obtain ⟨sq, aq, nq, cq, rfl⟩ := huq.shape
    obtain ⟨W11, hW11, hEb11, bq, br2, hz11⟩ := boxes2 w11 #[.bool false, .slice none 0 0] #[.bool false, .slice none 0 0] 39 39
    subst hW11
    clear k10 k11 k50 k51 br' br
    go_wp2_with ((with_reducible show wpList _ _ _ (⟨_, .store _ _ _, _, _, _, _⟩ :: _) _ _); first | (refine st_storeBox stInt rfl rfl bq rfl rfl (one2 _ _ _ _) ?_; intro w12 p5 p6; have br' := br2.ext p6 (ob_other (by omega))) | (refine st_storeBox stInt rfl rfl br' rfl rfl (one2 _ _ _ _) ?_; intro w13 p7 p8; have hE13 : Ext w11 w13 := ExtX.box (ExtX.box hEb11 p6 (Nat.le_refl _)) p8 (by omega); have t13 := t10.trans (hE11.trans hE13); have q13 := p5.ext p8 (ob_other (by omega)); have k90 := q13.cell 0 rfl; have k91 := q13.cell 1 rfl; have f90 := q13.frozen 0; have f91 := q13.frozen 1; have p13 := p10.ext0 (hE11.trans hE13); have k60 := p13.cell 0 rfl; have k61 := p13.cell 1 rfl))
    have huq13 := mkx ZC.mono huq hE13
    have hup13 := mkx ZC.mono (mkx ZC.mono hup10 hE11) hE13
    have hmq := huq13.mag
    have hkq : Hid (lg (k / (g : Int)).natAbs <= 1099511627776) := hid (by
      have h1 := hlow.out.2
      have : (k / (g : Int)).natAbs <= k.natAbs := by
        have := Int.natAbs_ediv_le_natAbs k (g : Int); exact this
      exact Nat.le_trans (lg_mono this) (Nat.le_trans bzk.out (by decide)))
    have bz13 := bz2.ext0 t13
    have hEs13 := hEs.trans t13
    refine (rqone _ _ _ _ hmq hkq.out).mono ?_
    rintro e14 w14 ⟨rfl, rfl⟩
    have hkg : Hid ((q.den : Int) = k / (g : Int)) := hid (by rw [<- hres.out]; exact hlow.out.2)
    have hzg : Hid (q.num = z / (g : Int)) := hid (by rw [<- hres.out]; exact hlow.out.1)
    by_cases h1 : (k / (g : Int)).natAbs = 1
    · have hd1 : Hid (dn q = 0) := hid ((dn_zero q).2 (by have := hkg.out; have := q.den_pos; omega))
      rw [decide_eq_true h1]
      clear h1
      go_upto_region 8 with (fail)
      obtain ⟨m1, m2⟩ := setCell_block q13 (.slice none 0 0) (i := 1) (by simp)
      obtain ⟨w14, hw14⟩ : ∃ w14, w13.setCell ⟨w11.heap.size, 1, none⟩ (.slice none 0 0) = w14 := ⟨_, rfl⟩
      rw [hw14] at m1 m2 |-
      have hE14 : Ext w11 w14 := ExtX.box hE13 m2 (Nat.le_refl _)
      have t14 := t10.trans (hE11.trans hE14)
      have bz14 := bz2.ext0 t14
      have p14 := p10.ext0 (hE11.trans hE14)
      clear k60 k61 k90 k91 f90 f91
      have k60 : w14.cell? ⟨w8.heap.size, 0, none⟩ = some (.bool sp) := p14.cell 0 rfl
      have k61 : w14.cell? ⟨w8.heap.size, 1, none⟩ = some (.slice ap np cp) := p14.cell 1 rfl
      have k91 : w14.cell? ⟨w11.heap.size, 1, none⟩ = some (.slice none 0 0) := m1.cell 1 rfl
      have hup14 := mkx ZC.mono (mkx ZC.mono hup10 hE11) hE14
      go_wp2_with ((with_reducible show wpList _ _ _ (⟨_, .store _ _ _, _, _, _, _⟩ :: _) _ _); refine st_storeBox stRat rfl rfl bz14 rfl rfl (one3 _ _ _ _ _ _ _) ?_; intro w15 r3 r4)
      have hfz : ZC (mk (hidB X b 3) w14) (.agg #[.bool sp, .slice ap np cp]) q.num := by rw [hzg.out]; exact hup14
      have hfd : NC (mk (hidB X b 3) w14) (.slice none 0 0) (dn q) := by rw [hd1.out]; exact NC.zero _
      have h7 := QC.mono _ _ _ _ le_unbox (QC.mono _ _ _ _ (le_store r4 (by omega) (by omega)) (QC.of hfz hfd))
      exact bodyPost_ret (results_box rfl rfl stRat r3 rfl) rfl ⟨ExtX.box (hEs.trans t14) r4 (by omega), _, rfl, h7⟩
    · have hd1 : Hid (dn q = (k / (g : Int)).natAbs) := hid (by
        have h2 := hkg.out
        unfold dn; rw [if_neg (by omega)]; omega)
      rw [decide_eq_false h1]
      clear h1
      go_wp2_with ((with_reducible show wpList _ _ _ (⟨_, .store _ _ _, _, _, _, _⟩ :: _) _ _); refine st_storeBox stRat rfl rfl bz13 rfl rfl (one3 _ _ _ _ _ _ _) ?_; intro w15 r3 r4)
      have hfz : ZC (mk (hidB X b 3) w13) (.agg #[.bool sp, .slice ap np cp]) q.num := by rw [hzg.out]; exact hup13
      have hfd : NC (mk (hidB X b 3) w13) (.slice aq nq cq) (dn q) := by rw [hd1.out]; exact hmq
      have h7 := QC.mono _ _ _ _ le_unbox (QC.mono _ _ _ _ (le_store r4 (by omega) (by omega)) (QC.of hfz hfd))
      exact bodyPost_ret (results_box rfl rfl stRat r3 rfl) rfl ⟨ExtX.box hEs13 r4 (by omega), _, rfl, h7⟩
  · have hI2 : decide (y.sign < 0) = true := by rw [Int.sign_eq_neg_one_of_neg h0]; rfl
    have hkn : Hid (0 < -y) := hid (by omega)
    generalize y.sign = sgy at *
    have hEd : Ext w5 w5.drew := (ExtX.refl w5).drew
    have hXd : HX (hidB X b 3) w5.drew := HX.ext (HX.ext hXW hE5) hEd
    have hud : ZV (mk (hidB X b 3) w5.drew) (.agg #[.bool s1, .slice a1 n1 c1]) x := mkx ZV.mono huz (hE5.trans hEd)
    have hvd : ZV (mk (hidB X b 3) w5.drew) (.agg #[.bool s2, .slice a2 n2 c2]) y := mkx ZV.mono hvz (hE5.trans hEd)
    have k00 := bb0.cell 0 rfl
    have k01 := bb0.cell 1 rfl
    have k10 := bb1.cell 0 rfl
    have k11 := bb1.cell 1 rfl
    have hres0 : Hid (((-x : Int) : Rat) / ((-y : Int) : Rat) = q) := hid (by
      rw [<- hq', Rat.intCast_neg, Rat.intCast_neg]; have : (y : Rat) ≠ 0 := by exact_mod_cast hy0
      grind)
    have bzn : Hid (lg (-x).natAbs <= 274877906944) := hid (by rw [Int.natAbs_neg]; exact hlx.out)
    have bzk : Hid (lg (-y).natAbs <= 274877906944) := hid (by rw [Int.natAbs_neg]; exact hly.out)
    clear h0 hy0 hq'
    go_upto_region 2 with (fail)
    go_region_with (first | (go_at_call 129; (with_reducible refine (rineg (hidB X b 3) w5.drew _ x hXd hud).mono ?_); rintro e w6 ⟨hE6, u6, rfl, s5, a5, c5, l5, rfl, h51, h52, h53⟩; have b60 := bb0.ext0 (hEd.trans hE6); have b61 := bb1.ext0 (hEd.trans hE6); have e00 := b60.cell 0 rfl; have e01 := b60.cell 1 rfl; have e10 := b61.cell 0 rfl; have e11 := b61.cell 1 rfl) | (go_at_call 129; (with_reducible refine (rineg (hidB X b 3) w6 _ y (HX.ext hXd hE6) (mkx ZV.mono hvd hE6)).mono ?_); rintro e w7 ⟨hE7, u7, rfl, s6, a6, c6, l6, rfl, h61, h62, h63⟩; have b70 := b60.ext0 hE7; have b71 := b61.ext0 hE7; have g00 := b70.cell 0 rfl; have g01 := b70.cell 1 rfl; have g10 := b71.cell 0 rfl; have g11 := b71.cell 1 rfl; have fr0 := b70.frozen 0; have fr1 := b70.frozen 1; have fr2 := b71.frozen 0; have fr3 := b71.frozen 1))
    all_goals
      obtain ⟨ws, hwf, bz0, bz1, qq2, hEs, q4⟩ := two_stores (X := X) (nb := 3) b70 b71 (hE.trans (hE5.trans ((hEd.trans hE6).trans hE7))) hbw (by omega) (.bool s5) (.slice a5 l5.length c5) (.bool s6) (.slice a6 l6.length c6)
      rw [hwf]
      have hzn : ZC (mk (hidB X b 3) ws) (.agg #[.bool s5, .slice a5 l5.length c5]) (-x) := ⟨s5, a5, c5, l5, rfl, h51, h52, (h53.mono (NatIn.mono _) (mk_ext hE7)).mono (NatIn.mono _) q4⟩
      have hzd : ZC (mk (hidB X b 3) ws) (.agg #[.bool s6, .slice a6 l6.length c6]) (-y) := ⟨s6, a6, c6, l6, rfl, h61, h62, h63.mono (NatIn.mono _) q4⟩
      have bz2 := qq2 (b + 1 + 1) _ _ (by omega) (by omega) (((bb2.ext0 hEd).ext0 hE6).ext0 hE7)
      have hzz : w.heap.size + 3 <= ws.heap.size := by have := bz2.lt; omega
      have hXs : HX (hidB X b 3) ws := hX.boxes' hEs (by have := hzz; omega) hzz
      clear e00 e01 e10 e11 g00 g01 g10 g11 fr0 fr1 fr2 fr3 k00 k01 k10 k11 hwf b60 b61 b70 b71 h51 h52 h53 h61 h62 h63
      have hres := hres0
      have hk := hkn
      generalize hsz : s5 = sz at *
      generalize haz : a5 = az at *
      generalize hnz : l5.length = nz at *
      generalize hcz : c5 = cz at *
      generalize hsk : s6 = sk at *
      generalize hak : a6 = ak at *
      generalize hnk : l6.length = nk at *
      generalize hck : c6 = ck at *
      generalize hxz : -x = z at *
      generalize hyk : -y = k at *
      have k00 := bz0.cell 0 rfl
      have k01 := bz0.cell 1 rfl
      have k10 := bz1.cell 0 rfl
      have k11 := bz1.cell 1 rfl
      have hgp := hid (Nat.gcd_pos_of_pos_right z.natAbs (show 0 < k.natAbs by have := hk.out; omega))
      have hgz := hid (show ((Nat.gcd z.natAbs k.natAbs : Nat) : Int) ∣ z from Int.ofNat_dvd_left.2 (Nat.gcd_dvd_left _ _))
      have hgk := hid (show ((Nat.gcd z.natAbs k.natAbs : Nat) : Int) ∣ k from Int.ofNat_dvd_left.2 (Nat.gcd_dvd_right _ _))
      have hgl := hid (show lg (Nat.gcd z.natAbs k.natAbs) <= 274877906944 from Nat.le_trans (lg_mono (Nat.gcd_le_right _ (by have := hk.out; omega))) bzk.out)
      have hlow := hid (over_low z k hk.out)
      obtain ⟨g, hg⟩ : ∃ g, Nat.gcd z.natAbs k.natAbs = g := ⟨_, rfl⟩
      rw [hg] at hgp hgz hgk hgl hlow
      replace hg := hid hg
      go_wp2_with fail
      refine (rigcd (hidB X b 3) ws _ _ _ _ hXs (hzn.zv (Nat.le_trans bzn.out (by decide))) (hzd.zv (Nat.le_trans bzk.out (by decide))) bzn.out bzk.out).mono ?_
      rintro e6 w6 ⟨hE6, ug, rfl, hug⟩
      rw [hg.out] at hug
      obtain ⟨ag, cg, lgd, rfl, g1, g2, g3⟩ := hug
      have bg := Bx.new w6 #[.bool false, .slice none 0 0] 39
      have hXg := hXs.ext hE6
      clear k00 k01 k10 k11
      go_wp2_with ((with_reducible show wpList _ _ _ (⟨_, .store _ _ _, _, _, _, _⟩ :: _) _ _); refine st_storeBox stInt rfl rfl bg rfl rfl (one2 _ _ _ _) ?_; intro w7 r1 r2; have hE7 : Ext w6 w7 := ExtX.box ((ExtX.refl w6).alloc _) r2 (Nat.le_refl _); have t7 := hE6.trans hE7; have k00 := (bz0.ext0 t7).cell 0 rfl; have k01 := (bz0.ext0 t7).cell 1 rfl; have k50 := r1.cell 0 rfl; have k51 := r1.cell 1 rfl)
      have hX7 := (hXg.ext hE7)
      have hug7 : ZC (mk (hidB X b 3) w7) (.agg #[.bool false, .slice ag lgd.length cg]) (g : Int) := NC.zc (NC.mono _ _ _ _ (mk_ext hE7) ⟨ag, cg, lgd, rfl, g1, g2, g3⟩)
      have hz7 := mkx ZC.mono hzn t7
      have hgl2 : Hid (lg ((g : Int)).natAbs <= 274877906944) := hid (by rw [Int.natAbs_natCast]; exact hgl.out)
      have hgpI : Hid ((0 : Int) < (g : Int)) := hid (by have := hgp.out; omega)
      refine (ridiv (hidB X b 3) w7 _ _ z g hX7 (hz7.zv (Nat.le_trans bzn.out (by decide))) (hug7.zv (Nat.le_trans hgl2.out (by decide))) bzn.out hgl2.out hgpI.out hgz.out).mono ?_
      rintro e8 w8 ⟨hE8, up, sv, av, nv, cv, rfl, hup⟩
      obtain ⟨sp, ap, np, cp, rfl⟩ := hup.shape
      obtain ⟨W8, hW8, hEb8, bp, br, hz8⟩ := boxes2 w8 #[.bool false, .slice none 0 0] #[.bool false, .slice none 0 0] 39 39
      subst hW8
      clear k00 k01 k50 k51
      go_wp2_with ((with_reducible show wpList _ _ _ (⟨_, .store _ _ _, _, _, _, _⟩ :: _) _ _); first | (refine st_storeBox stInt rfl rfl bp rfl rfl (one2 _ _ _ _) ?_; intro w9 p1 p2; have br' := br.ext p2 (ob_other (by omega))) | (refine st_storeBox stInt rfl rfl br' rfl rfl (one2 _ _ _ _) ?_; intro w10 p3 p4; have hE10 : Ext w8 w10 := ExtX.box (ExtX.box hEb8 p2 (Nat.le_refl _)) p4 (by omega); have t10 := t7.trans (hE8.trans hE10); have k10 := (bz1.ext0 t10).cell 0 rfl; have k11 := (bz1.ext0 t10).cell 1 rfl; have r10 := r1.ext0 (hE8.trans hE10); have k50 := r10.cell 0 rfl; have k51 := r10.cell 1 rfl; have p10 := p1.ext p4 (ob_other (by omega))))
      have hup10 := mkx ZC.mono hup hE10
      have hX10 := (hX7.ext hE8).ext hE10
      have hk10 := mkx ZC.mono hzd t10
      have hug10 := mkx ZC.mono (mkx ZC.mono hug7 hE8) hE10
      refine (ridiv (hidB X b 3) w10 _ _ k g hX10 (hk10.zv (Nat.le_trans bzk.out (by decide))) (hug10.zv (Nat.le_trans hgl2.out (by decide))) bzk.out hgl2.out hgpI.out hgk.out).mono ?_
      rintro e11 w11 ⟨hE11, uq, sv2, av2, nv2, cv2, rfl, huq⟩
      obtain ⟨sq, aq, nq, cq, rfl⟩ := huq.shape
      obtain ⟨W11, hW11, hEb11, bq, br2, hz11⟩ := boxes2 w11 #[.bool false, .slice none 0 0] #[.bool false, .slice none 0 0] 39 39
      subst hW11
      clear k10 k11 k50 k51 br' br
      go_wp2_with ((with_reducible show wpList _ _ _ (⟨_, .store _ _ _, _, _, _, _⟩ :: _) _ _); first | (refine st_storeBox stInt rfl rfl bq rfl rfl (one2 _ _ _ _) ?_; intro w12 p5 p6; have br' := br2.ext p6 (ob_other (by omega))) | (refine st_storeBox stInt rfl rfl br' rfl rfl (one2 _ _ _ _) ?_; intro w13 p7 p8; have hE13 : Ext w11 w13 := ExtX.box (ExtX.box hEb11 p6 (Nat.le_refl _)) p8 (by omega); have t13 := t10.trans (hE11.trans hE13); have q13 := p5.ext p8 (ob_other (by omega)); have k90 := q13.cell 0 rfl; have k91 := q13.cell 1 rfl; have f90 := q13.frozen 0; have f91 := q13.frozen 1; have p13 := p10.ext0 (hE11.trans hE13); have k60 := p13.cell 0 rfl; have k61 := p13.cell 1 rfl))
      have huq13 := mkx ZC.mono huq hE13
      have hup13 := mkx ZC.mono (mkx ZC.mono hup10 hE11) hE13
      have hmq := huq13.mag
      have hkq : Hid (lg (k / (g : Int)).natAbs <= 1099511627776) := hid (by
        have h1 := hlow.out.2
        have : (k / (g : Int)).natAbs <= k.natAbs := by
          have := Int.natAbs_ediv_le_natAbs k (g : Int); exact this
        exact Nat.le_trans (lg_mono this) (Nat.le_trans bzk.out (by decide)))
      have bz13 := bz2.ext0 t13
      have hEs13 := hEs.trans t13
      refine (rqone _ _ _ _ hmq hkq.out).mono ?_
      rintro e14 w14 ⟨rfl, rfl⟩
      have hkg : Hid ((q.den : Int) = k / (g : Int)) := hid (by rw [<- hres.out]; exact hlow.out.2)
      have hzg : Hid (q.num = z / (g : Int)) := hid (by rw [<- hres.out]; exact hlow.out.1)
      by_cases h1 : (k / (g : Int)).natAbs = 1
      · have hd1 : Hid (dn q = 0) := hid ((dn_zero q).2 (by have := hkg.out; have := q.den_pos; omega))
        rw [decide_eq_true h1]
        clear h1
        go_upto_region 8 with (fail)
        obtain ⟨m1, m2⟩ := setCell_block q13 (.slice none 0 0) (i := 1) (by simp)
        obtain ⟨w14, hw14⟩ : ∃ w14, w13.setCell ⟨w11.heap.size, 1, none⟩ (.slice none 0 0) = w14 := ⟨_, rfl⟩
        rw [hw14] at m1 m2 |-
        have hE14 : Ext w11 w14 := ExtX.box hE13 m2 (Nat.le_refl _)
        have t14 := t10.trans (hE11.trans hE14)
        have bz14 := bz2.ext0 t14
        have p14 := p10.ext0 (hE11.trans hE14)
        clear k60 k61 k90 k91 f90 f91
        have k60 : w14.cell? ⟨w8.heap.size, 0, none⟩ = some (.bool sp) := p14.cell 0 rfl
        have k61 : w14.cell? ⟨w8.heap.size, 1, none⟩ = some (.slice ap np cp) := p14.cell 1 rfl
        have k91 : w14.cell? ⟨w11.heap.size, 1, none⟩ = some (.slice none 0 0) := m1.cell 1 rfl
        have hup14 := mkx ZC.mono (mkx ZC.mono hup10 hE11) hE14
        go_wp2_with ((with_reducible show wpList _ _ _ (⟨_, .store _ _ _, _, _, _, _⟩ :: _) _ _); refine st_storeBox stRat rfl rfl bz14 rfl rfl (one3 _ _ _ _ _ _ _) ?_; intro w15 r3 r4)
        have hfz : ZC (mk (hidB X b 3) w14) (.agg #[.bool sp, .slice ap np cp]) q.num := by rw [hzg.out]; exact hup14
        have hfd : NC (mk (hidB X b 3) w14) (.slice none 0 0) (dn q) := by rw [hd1.out]; exact NC.zero _
        have h7 := QC.mono _ _ _ _ le_unbox (QC.mono _ _ _ _ (le_store r4 (by omega) (by omega)) (QC.of hfz hfd))
        exact bodyPost_ret (results_box rfl rfl stRat r3 rfl) rfl ⟨ExtX.box (hEs.trans t14) r4 (by omega), _, rfl, h7⟩
      · have hd1 : Hid (dn q = (k / (g : Int)).natAbs) := hid (by
          have h2 := hkg.out
          unfold dn; rw [if_neg (by omega)]; omega)
        rw [decide_eq_false h1]
        clear h1
        go_wp2_with ((with_reducible show wpList _ _ _ (⟨_, .store _ _ _, _, _, _, _⟩ :: _) _ _); refine st_storeBox stRat rfl rfl bz13 rfl rfl (one3 _ _ _ _ _ _ _) ?_; intro w15 r3 r4)
        have hfz : ZC (mk (hidB X b 3) w13) (.agg #[.bool sp, .slice ap np cp]) q.num := by rw [hzg.out]; exact hup13
        have hfd : NC (mk (hidB X b 3) w13) (.slice aq nq cq) (dn q) := by rw [hd1.out]; exact hmq
        have h7 := QC.mono _ _ _ _ le_unbox (QC.mono _ _ _ _ (le_store r4 (by omega) (by omega)) (QC.of hfz hfd))
        exact bodyPost_ret (results_box rfl rfl stRat r3 rfl) rfl ⟨ExtX.box hEs13 r4 (by omega), _, rfl, h7⟩
end Go.Proofs.YtnnpfhoigmegcaaGreat
namespace Go.Proofs.YtnnpfhoigmegcaaGreat
open Go.RowKit Go.Rep Go.Lim
theorem rqfrom (X : Nat -> Bool) (w : World) (v : Int) (hX : HX X w) (h1 : -9223372036854775808 <= v) (h2 : v <= 9223372036854775807) : Calls Tryz.prog 54 #[.int .i64 v] w (ROut X w QC v) := by
  obtain ⟨W, hW, hE, b0, hz⟩ := boxes1 w #[.bool false, .slice none 0 0, .slice none 0 0] 41
  have hXW : HX (hidB X w.heap.size 1) W := hX.boxes hz
  obtain ⟨b, hb⟩ : ∃ b, w.heap.size = b := ⟨_, rfl⟩
  have hbw : w.heap.size <= b := by omega
  rw [hb] at b0 hz hXW
  have h1' := hid h1
  have h2' := hid h2
  clear h1 h2
  go_enter Tryz.func54, Tryz.ntmps54
  go_wp2_with fail
  refine (rifrom (hidB X b 1) W v hXW h1'.out h2'.out).mono ?_
  rintro e1 w1 ⟨hE1, u1, rfl, s6, a6, c6, l6, rfl, h61, h62, h63⟩
  have b1' := b0.ext0 hE1
  have hcq := CanQ.ofInt h62
  go_wp2_with ((with_reducible show wpList _ _ _ (⟨_, .store _ _ _, _, _, _, _⟩ :: _) _ _); refine st_storeBox stRat rfl rfl b1' rfl rfl (one3 _ _ _ _ _ _ _) ?_; intro w7 r1 r2)
  have h7 := (h63.mono (NatIn.mono _) (le_store r2 (by omega) (by omega))).mono (NatIn.mono _) le_unbox
  exact bodyPost_ret (results_box rfl rfl stRat r1 rfl) rfl ⟨ExtX.box (hE.trans hE1) r2 (by omega), _, rfl, s6, a6, c6, l6, none, 0, [], rfl, h61, Nat.le_refl _, hcq, h7, Sl.nil _ _ _ _⟩
set_option maxRecDepth 100000 in
theorem rqsign (X : Nat -> Bool) (w : World) (u : Value) (x : Rat) (hX : HX X w) (hu : QV (mk X w) u x) : Calls Tryz.prog 42 #[u] w (IntOut w x.num.sign) := by
  have hlx := hid hu.hq
  obtain ⟨s1, a1, n1, c1, d1, k1, e1, rfl⟩ := hu.shape
  obtain ⟨W, hW, hE, b0, hz⟩ := boxes1 w #[.bool s1, .slice a1 n1 c1, .slice d1 k1 e1] 41
  have hXW : HX X W := hX.ext hE
  have hu1 := mkx QV.mono hu hE
  obtain ⟨b, hb⟩ : ∃ b, w.heap.size = b := ⟨_, rfl⟩
  rw [hb] at b0 hz
  have k00 := b0.cell 0 rfl
  have k01 := b0.cell 1 rfl
  have k02 := b0.cell 2 rfl
  have hfl := run_fieldNum
  clear hu
  go_enter Tryz.func42, Tryz.ntmps42
  go_wp2_with fail
  refine (rqtake X W _ x hXW hu1).mono ?_
  rintro ee w5 ⟨hE5, u5, rfl, hq5⟩
  obtain ⟨s5, a5, n5, c5, d5, k5, e5, rfl⟩ := hq5.shape
  have hz5 := hq5.num.1.zv (Nat.le_trans (Nat.le_trans (hq_num x) hlx.out) (by omega))
  clear k00 k01 k02
  go_wp2_with fail
  refine (risign X w5 _ _ (hXW.ext hE5) hz5).mono ?_
  rintro ee w6 ⟨hE6, rfl⟩
  go_wp2_with fail
  go_ret
  exact ⟨hE.trans (hE5.trans hE6), rfl⟩
set_option maxRecDepth 100000 in
theorem rqneg (X : Nat -> Bool) (w : World) (u : Value) (x : Rat) (hX : HX X w) (hu : QV (mk X w) u x) : Calls Tryz.prog 56 #[u] w (ROut X w QC (-x)) := by
  have hlx := hid hu.hq
  obtain ⟨s1, a1, n1, c1, d1, k1, e1, rfl⟩ := hu.shape
  obtain ⟨W, hW, hE, b0, b1, hz⟩ := boxes2 w #[.bool s1, .slice a1 n1 c1, .slice d1 k1 e1] #[.bool false, .slice none 0 0, .slice none 0 0] 41 41
  have hXW : HX (hidB X w.heap.size 2) W := hX.boxes hz
  have hu1 := QV.mono _ _ _ _ (le_boxes (nb := 2) hE) hu
  obtain ⟨b, hb⟩ : ∃ b, w.heap.size = b := ⟨_, rfl⟩
  have hbw : w.heap.size <= b := by omega
  rw [hb] at b0 b1 hz hXW hu1
  have k00 := b0.cell 0 rfl
  have k01 := b0.cell 1 rfl
  have k02 := b0.cell 2 rfl
  clear hu
  go_enter Tryz.func56, Tryz.ntmps56
  go_wp2_with fail
  refine (rqtake (hidB X b 2) W _ x hXW hu1).mono ?_
  rintro e w5 ⟨hE5, u5, rfl, hq5⟩
  obtain ⟨s5, a5, n5, c5, d5, k5, e5, rfl⟩ := hq5.shape
  have hX5 := hXW.ext hE5
  have bb0 := b0.ext0 hE5
  have bb1 := b1.ext0 hE5
  clear k00 k01 k02
  go_upto_region 2 with ((with_reducible show wpList _ _ _ (⟨_, .store _ _ _, _, _, _, _⟩ :: _) _ _); refine st_storeBox stRat rfl rfl bb0 rfl rfl (one3 _ _ _ _ _ _ _) ?_; intro w7 r1 r2; have k00 := r1.cell 0 rfl; have k01 := r1.cell 1 rfl; have k02 := r1.cell 2 rfl)
  have hX7 := hX5.ext r2
  have bb3 := bb1.ext r2 (ob_other (by omega))
  have hx7 := QC.mono _ _ _ _ (le_store (X := X) (lo := b) (nb := 2) r2 (by omega) (by omega)) hq5
  have hE7 : Ext w w7 := ExtX.box (hE.trans hE5) r2 (by omega)
  obtain ⟨hxz, hxm, hxdn⟩ := hx7.num
  have hEd : Ext w7 w7.drew := (ExtX.refl w7).drew
  have hXd : HX (hidB X b 2) w7.drew := hX7
  have hxzd : ZC (mk (hidB X b 2) w7.drew) (.agg #[.bool s5, .slice a5 n5 c5]) x.num := hxz
  have hxdd : NC (mk (hidB X b 2) w7.drew) (.slice d5 k5 e5) (dn x) := hxdn
  have bxn : lg x.num.natAbs <= 549755813888 := Nat.le_trans (Nat.le_trans (hq_num x) hlx.out) (by omega)
  have bxd : lg (dn x) <= 549755813888 := Nat.le_trans (Nat.le_trans (dn_le x) hlx.out) (by omega)
  have hxv := hxzd.zv bxn
  have hS : Hid (∀ W', Ext w7.drew W' -> W'.cell? ⟨b, 0, none⟩ = some (.bool s5) /\ W'.cell? ⟨b, 1, none⟩ = some (.slice a5 n5 c5) /\ W'.cell? ⟨b, 2, none⟩ = some (.slice d5 k5 e5)) :=
    hid fun W' h => ⟨(r1.ext0 (hEd.trans h)).cell 0 rfl, (r1.ext0 (hEd.trans h)).cell 1 rfl, (r1.ext0 (hEd.trans h)).cell 2 rfl⟩
  go_region_held3 (fun w' => w'.cell? ⟨b, 0, none⟩ = some (.bool s5) /\ w'.cell? ⟨b, 1, none⟩ = some (.slice a5 n5 c5) /\ w'.cell? ⟨b, 2, none⟩ = some (.slice d5 k5 e5))
    (first | exact hS.out _ t1 | exact hS.out _ t2 | exact ⟨((r1.ext0 (hEd.trans t2)).ext (bb2.set3 _ _ _).2 (ob_other (by omega))).cell 0 rfl, ((r1.ext0 (hEd.trans t2)).ext (bb2.set3 _ _ _).2 (ob_other (by omega))).cell 1 rfl, ((r1.ext0 (hEd.trans t2)).ext (bb2.set3 _ _ _).2 (ob_other (by omega))).cell 2 rfl⟩ | go_keep)
    (first | (go_at_call 129; (with_reducible refine (rineg (hidB X b 2) w7.drew _ _ hXd hxv).mono ?_); rintro ee w8 ⟨t1, u8, rfl, s8, a8, c8, l8, rfl, h81, h82, h83⟩; have hX8 := HX.ext hXd t1; have t2 := t1; have hm8 := mkx NC.mono hxdd t1; have bb2 := bb3.ext0 (hEd.trans t2); have g0 := bb2.cell 0 rfl; have g1 := bb2.cell 1 rfl; have g2 := bb2.cell 2 rfl; have f0 := bb2.frozen 0; have f1 := bb2.frozen 1; have f2 := bb2.frozen 2))
  obtain ⟨q1, q2⟩ := bb2.set3 (.bool s8) (.slice a8 l8.length c8) (.slice d5 k5 e5)
  have hz : ZC (mk (hidB X b 2) w8) (.agg #[.bool s8, .slice a8 l8.length c8]) (-x).num := ⟨s8, a8, c8, l8, rfl, h81, by rw [Rat.neg_num]; exact h82, h83⟩
  have hd : NC (mk (hidB X b 2) w8) (.slice d5 k5 e5) (dn (-x)) := by rw [dn_neg]; exact hm8
  have h7 := QC.mono _ _ _ _ le_unbox (QC.mono _ _ _ _ (le_store q2 (by omega) (by omega)) (QC.of hz hd))
  have hEf : Ext w _ := ExtX.box (hE7.trans (hEd.trans t2)) q2 (by omega)
  clear g0 g1 g2 f0 f1 f2 k00 k01 k02 hS
  go_wp2_with fail
  exact bodyPost_ret (results_box rfl rfl stRat q1 rfl) rfl ⟨hEf, _, rfl, h7⟩
end Go.Proofs.YtnnpfhoigmegcaaGreat
namespace Go.Proofs.YtnnpfhoigmegcaaGreat
open Go.RowKit Go.Rep Go.Lim
set_option maxRecDepth 100000 in
set_option maxHeartbeats 1600000 in
theorem rqadd (X : Nat -> Bool) (w : World) (u v : Value) (x y : Rat) (hX : HX X w) (hu : QV (mk X w) u x) (hv : QV (mk X w) v y) : Calls Tryz.prog 48 #[u, v] w (ROut X w QC (x + y)) := by
  have hlx := hid hu.hq
  have hly := hid hv.hq
  obtain ⟨s1, a1, n1, c1, d1, k1, e1, rfl⟩ := hu.shape
  obtain ⟨s2, a2, n2, c2, d2, k2, e2, rfl⟩ := hv.shape
  obtain ⟨W, hW, hE, b0, b1, b2, hz⟩ := boxes3 w #[.bool s1, .slice a1 n1 c1, .slice d1 k1 e1] #[.bool s2, .slice a2 n2 c2, .slice d2 k2 e2] #[.bool false, .slice none 0 0, .slice none 0 0] 41 41 41
  have hXW : HX (hidB X w.heap.size 3) W := hX.boxes hz
  have hu1 := QV.mono _ _ _ _ (le_boxes (nb := 3) hE) hu
  have hv1 := QV.mono _ _ _ _ (le_boxes (nb := 3) hE) hv
  obtain ⟨b, hb⟩ : ∃ b, w.heap.size = b := ⟨_, rfl⟩
  have hbw : w.heap.size <= b := by omega
  rw [hb] at b0 b1 b2 hz hXW hu1 hv1
  have hEd : Ext W W.drew := (ExtX.refl W).drew
  have hXd : HX (hidB X b 3) W.drew := hXW
  have hud : QV (mk (hidB X b 3) W.drew) (.agg #[.bool s1, .slice a1 n1 c1, .slice d1 k1 e1]) x := hu1
  have hvd : QV (mk (hidB X b 3) W.drew) (.agg #[.bool s2, .slice a2 n2 c2, .slice d2 k2 e2]) y := hv1
  have k00 := b0.cell 0 rfl
  have k01 := b0.cell 1 rfl
  have k02 := b0.cell 2 rfl
  have k10 := b1.cell 0 rfl
  have k11 := b1.cell 1 rfl
  have k12 := b1.cell 2 rfl
  clear hu hv
  go_enter Tryz.func48, Tryz.ntmps48
  go_upto_region 1 with (fail)
  go_cut [] from 5 to 8 (fun wx => ∃ s3 a3 n3 c3 d3 k3 e3 s4 a4 n4 c4 d4 k4 e4, Bx wx b #[.bool s3, .slice a3 n3 c3, .slice d3 k3 e3] 41 /\ Bx wx (b + 1) #[.bool s4, .slice a4 n4 c4, .slice d4 k4 e4] 41 /\ Bx wx (b + 1 + 1) #[.bool false, .slice none 0 0, .slice none 0 0] 41 /\ QC (mk (hidB X b 3) wx) (.agg #[.bool s3, .slice a3 n3 c3, .slice d3 k3 e3]) x /\ QC (mk (hidB X b 3) wx) (.agg #[.bool s4, .slice a4 n4 c4, .slice d4 k4 e4]) y /\ Ext w wx)
  case first =>
    go_region_with (first | (go_at_call 118; (with_reducible refine (rqtake (hidB X b 3) W.drew _ x hXd hud).mono ?_); rintro ee w5 ⟨hE5, u5, rfl, hq5⟩; obtain ⟨s5, a5, n5, c5, d5, k5, e5, rfl⟩ := hq5.shape; have bb0 := b0.ext0 (hEd.trans hE5); have bb1 := b1.ext0 (hEd.trans hE5); have e00 := bb0.cell 0 rfl; have e01 := bb0.cell 1 rfl; have e02 := bb0.cell 2 rfl; have e10 := bb1.cell 0 rfl; have e11 := bb1.cell 1 rfl; have e12 := bb1.cell 2 rfl) | (go_at_call 118; (with_reducible refine (rqtake (hidB X b 3) w5 _ y (HX.ext hXd hE5) (mkx QV.mono hvd hE5)).mono ?_); rintro ee w6 ⟨hE6, u6, rfl, hq6⟩; obtain ⟨s6, a6, n6, c6, d6, k6, e6, rfl⟩ := hq6.shape; have bb2 := bb0.ext0 hE6; have bb3 := bb1.ext0 hE6; have g00 := bb2.cell 0 rfl; have g01 := bb2.cell 1 rfl; have g02 := bb2.cell 2 rfl; have g10 := bb3.cell 0 rfl; have g11 := bb3.cell 1 rfl; have g12 := bb3.cell 2 rfl; have fr0 := bb2.frozen 0; have fr1 := bb2.frozen 1; have fr4 := bb2.frozen 2; have fr2 := bb3.frozen 0; have fr3 := bb3.frozen 1; have fr5 := bb3.frozen 2))
    all_goals
      obtain ⟨wf, hwf, q0, q1, q2, q3, q4⟩ := two_stores3 (X := X) (nb := 3) bb2 bb3 (hE.trans ((hEd.trans hE5).trans hE6)) hbw (by omega) (.bool s5) (.slice a5 n5 c5) (.slice d5 k5 e5) (.bool s6) (.slice a6 n6 c6) (.slice d6 k6 e6)
      rw [hwf]
      have hfx : QC (mk (hidB X b 3) wf) (.agg #[.bool s5, .slice a5 n5 c5, .slice d5 k5 e5]) x := QC.mono _ _ _ _ q4 (mkx QC.mono hq5 hE6)
      have hfy : QC (mk (hidB X b 3) wf) (.agg #[.bool s6, .slice a6 n6 c6, .slice d6 k6 e6]) y := QC.mono _ _ _ _ q4 hq6
      have q5 := q2 (b + 1 + 1) _ _ (by omega) (by omega) ((b2.ext0 (hEd.trans hE5)).ext0 hE6)
      clear e00 e01 e02 e10 e11 e12 g00 g01 g02 g10 g11 g12 fr0 fr1 fr2 fr3 fr4 fr5 k00 k01 k02 k10 k11 k12 hwf
      go_wp2_with fail
      go_meet
      exact ⟨_, _, _, _, _, _, _, _, _, _, _, _, _, _, q0, q1, q5, hfx, hfy, q3⟩
  case rest =>
    clear k00 k01 k02 k10 k11 k12 b0 b1 b2 hu1 hv1 hud hvd hXd hEd hW
    obtain ⟨s3, a3, n3, c3, d3, k3, e3, s4, a4, n4, c4, d4, k4, e4, b0, b1, b2, hx, hy, hE1⟩ := hcut
    have hzz : w.heap.size + 3 <= wc.heap.size := by have := b2.lt; omega
    obtain ⟨hxz, hxm, hxdn⟩ := hx.num
    obtain ⟨hyz, hym, hydn⟩ := hy.num
    have hXc : HX (hidB X b 3) wc := hX.boxes' hE1 (by have := hzz; omega) hzz
    have k00 := b0.cell 0 rfl
    have k01 := b0.cell 1 rfl
    have k02 := b0.cell 2 rfl
    have k10 := b1.cell 0 rfl
    have k11 := b1.cell 1 rfl
    have k12 := b1.cell 2 rfl
    have hEd : Ext wc wc.drew := (ExtX.refl wc).drew
    have hXd : HX (hidB X b 3) wc.drew := hXc
    have hxd : QC (mk (hidB X b 3) wc.drew) (.agg #[.bool s3, .slice a3 n3 c3, .slice d3 k3 e3]) x := hx
    have hyd : QC (mk (hidB X b 3) wc.drew) (.agg #[.bool s4, .slice a4 n4 c4, .slice d4 k4 e4]) y := hy
    have hxzd : ZC (mk (hidB X b 3) wc.drew) (.agg #[.bool s3, .slice a3 n3 c3]) x.num := hxz
    have hyzd : ZC (mk (hidB X b 3) wc.drew) (.agg #[.bool s4, .slice a4 n4 c4]) y.num := hyz
    have bxn : lg x.num.natAbs <= 549755813888 := Nat.le_trans (Nat.le_trans (hq_num x) hlx.out) (by omega)
    have byn : lg y.num.natAbs <= 549755813888 := Nat.le_trans (Nat.le_trans (hq_num y) hly.out) (by omega)
    have bxd : lg x.den <= 549755813888 := Nat.le_trans (Nat.le_trans (hq_den x) hlx.out) (by omega)
    have byd : lg y.den <= 549755813888 := Nat.le_trans (Nat.le_trans (hq_den y) hly.out) (by omega)
    have bp1 : lg (x.num * (y.den : Int)).natAbs <= 274877906944 := by rw [Int.natAbs_mul, Int.natAbs_natCast]; have := lg_mul x.num.natAbs y.den; have := hq_num x; have := hq_den y; have := hlx.out; have := hly.out; omega
    have bp2 : lg (y.num * (x.den : Int)).natAbs <= 274877906944 := by rw [Int.natAbs_mul, Int.natAbs_natCast]; have := lg_mul y.num.natAbs x.den; have := hq_num y; have := hq_den x; have := hlx.out; have := hly.out; omega
    have bdd : lg (x.den * y.den) <= 274877906944 := by have := lg_mul x.den y.den; have := hq_den x; have := hq_den y; have := hlx.out; have := hly.out; omega
    have bnn : lg (x.num * y.num).natAbs <= 274877906944 := by rw [Int.natAbs_mul]; have := lg_mul x.num.natAbs y.num.natAbs; have := hq_num x; have := hq_num y; have := hlx.out; have := hly.out; omega
    have bd0 : 0 < x.den * y.den := Nat.mul_pos x.den_pos y.den_pos
    have hB := hid (And.intro b0 b1)
    have hS : Hid (∀ W', Ext wc.drew W' -> W'.cell? ⟨b, 0, none⟩ = some (.bool s3) /\ W'.cell? ⟨b, 1, none⟩ = some (.slice a3 n3 c3) /\ W'.cell? ⟨b, 2, none⟩ = some (.slice d3 k3 e3) /\ W'.cell? ⟨b + 1, 0, none⟩ = some (.bool s4) /\ W'.cell? ⟨b + 1, 1, none⟩ = some (.slice a4 n4 c4) /\ W'.cell? ⟨b + 1, 2, none⟩ = some (.slice d4 k4 e4)) :=
      hid fun W' h => ⟨(b0.ext0 (hEd.trans h)).cell 0 rfl, (b0.ext0 (hEd.trans h)).cell 1 rfl, (b0.ext0 (hEd.trans h)).cell 2 rfl, (b1.ext0 (hEd.trans h)).cell 0 rfl, (b1.ext0 (hEd.trans h)).cell 1 rfl, (b1.ext0 (hEd.trans h)).cell 2 rfl⟩
    have bqx : hq x <= 549755813888 := Nat.le_trans hlx.out (by decide)
    have bqy : hq y <= 549755813888 := Nat.le_trans hly.out (by decide)
    have cxn : lg x.num.natAbs <= 274877906944 := Nat.le_trans (Nat.le_trans (hq_num x) hlx.out) (by omega)
    have cyn : lg y.num.natAbs <= 274877906944 := Nat.le_trans (Nat.le_trans (hq_num y) hly.out) (by omega)
    have cxd : lg (x.den : Int).natAbs <= 274877906944 := Nat.le_trans (Nat.le_trans (hq_den x) hlx.out) (by omega)
    have cyd : lg (y.den : Int).natAbs <= 274877906944 := Nat.le_trans (Nat.le_trans (hq_den y) hly.out) (by omega)
    have cdd : lg ((x.den : Int) * (y.den : Int)).natAbs <= 274877906944 := by rw [<- Int.natCast_mul, Int.natAbs_natCast]; exact bdd
    have cd0 : (x.den : Int) * (y.den : Int) ≠ 0 := Int.mul_ne_zero (by have := x.den_nz; omega) (by have := y.den_nz; omega)
    have csum : lg (x.num * (y.den : Int) + y.num * (x.den : Int)).natAbs <= 274877906944 := by
      have h1 := lg_mono (Int.natAbs_add_le (x.num * (y.den : Int)) (y.num * (x.den : Int)))
      have h2 := lg_add (x.num * (y.den : Int)).natAbs (y.num * (x.den : Int)).natAbs
      have h3 : lg (x.num * (y.den : Int)).natAbs <= 137438953472 := by rw [Int.natAbs_mul, Int.natAbs_natCast]; have := lg_mul x.num.natAbs y.den; have := hq_num x; have := hq_den y; have := hlx.out; have := hly.out; omega
      have h4 : lg (y.num * (x.den : Int)).natAbs <= 137438953472 := by rw [Int.natAbs_mul, Int.natAbs_natCast]; have := lg_mul y.num.natAbs x.den; have := hq_num y; have := hq_den x; have := hlx.out; have := hly.out; omega
      omega
    have hfin : Hid (((x.num * (y.den : Int) + y.num * (x.den : Int) : Int) : Rat) / (((x.den : Int) * (y.den : Int) : Int) : Rat) = x + y) := hid (by
      rw [<- Int.natCast_mul, Rat.intCast_natCast, <- Rat.mkRat_eq_div]; exact (Rat.add_def' x y).symm)
    go_wp2_with fail
    go_region_held3 (fun w' => w'.cell? ⟨b, 0, none⟩ = some (.bool s3) /\ w'.cell? ⟨b, 1, none⟩ = some (.slice a3 n3 c3) /\ w'.cell? ⟨b, 2, none⟩ = some (.slice d3 k3 e3) /\ w'.cell? ⟨b + 1, 0, none⟩ = some (.bool s4) /\ w'.cell? ⟨b + 1, 1, none⟩ = some (.slice a4 n4 c4) /\ w'.cell? ⟨b + 1, 2, none⟩ = some (.slice d4 k4 e4))
      (first | exact hS.out _ t1 | exact hS.out _ t2 | exact hS.out _ t3 | exact hS.out _ t4 | exact hS.out _ t5 | exact hS.out _ t6 | exact hS.out _ t7 | exact hS.out _ t8 | exact hS.out _ t9 | exact ⟨((hB.out.1.ext0 (hEd.trans t9)).ext (bb2.set3 _ _ _).2 (ob_other (by omega))).cell 0 rfl, ((hB.out.1.ext0 (hEd.trans t9)).ext (bb2.set3 _ _ _).2 (ob_other (by omega))).cell 1 rfl, ((hB.out.1.ext0 (hEd.trans t9)).ext (bb2.set3 _ _ _).2 (ob_other (by omega))).cell 2 rfl, ((hB.out.2.ext0 (hEd.trans t9)).ext (bb2.set3 _ _ _).2 (ob_other (by omega))).cell 0 rfl, ((hB.out.2.ext0 (hEd.trans t9)).ext (bb2.set3 _ _ _).2 (ob_other (by omega))).cell 1 rfl, ((hB.out.2.ext0 (hEd.trans t9)).ext (bb2.set3 _ _ _).2 (ob_other (by omega))).cell 2 rfl⟩ | go_keep)
      (first | (go_at_call 122; (with_reducible refine (rqden (hidB X b 3) wc.drew _ y hXd hyd bqy).mono ?_); rintro ee w5 ⟨t1, u5, rfl, hu5⟩; have hX5 := HX.ext hXd t1; have hx5 := mkx ZC.mono hxzd t1) | (go_at_call 121; (with_reducible refine (rimul (hidB X b 3) w5 _ _ x.num (y.den : Int) hX5 (hx5.zv (Nat.le_trans cxn (by decide))) (hu5.zv (Nat.le_trans cyd (by decide))) cxn cyd).mono ?_); rintro ee w6 ⟨hE6, u6, rfl, hu6⟩; have t2 := t1.trans hE6; have hX6 := HX.ext hXd t2; have hx6 := mkx QC.mono hxd t2) | (go_at_call 122; (with_reducible refine (rqden (hidB X b 3) w6 _ x hX6 hx6 bqx).mono ?_); rintro ee w7 ⟨hE7, u7, rfl, hu7⟩; have t3 := t2.trans hE7; have hX7 := HX.ext hXd t3; have hy7 := mkx ZC.mono hyzd t3) | (go_at_call 121; (with_reducible refine (rimul (hidB X b 3) w7 _ _ y.num (x.den : Int) hX7 (hy7.zv (Nat.le_trans cyn (by decide))) (hu7.zv (Nat.le_trans cxd (by decide))) cyn cxd).mono ?_); rintro ee w8 ⟨hE8, u8, rfl, hu8⟩; have t4 := t3.trans hE8; have hX8 := HX.ext hXd t4; have hz6 := mkx ZC.mono hu6 (hE7.trans hE8)) | (go_at_call 120; (with_reducible refine (riadd (hidB X b 3) w8 _ _ _ _ hX8 (hz6.zv (Nat.le_trans bp1 (by decide))) (hu8.zv (Nat.le_trans bp2 (by decide)))).mono ?_); rintro ee w9 ⟨hE9, u9, rfl, hu9⟩; have t5 := t4.trans hE9; have hX9 := HX.ext hXd t5; have hx9 := mkx QC.mono hxd t5) | (go_at_call 122; (with_reducible refine (rqden (hidB X b 3) w9 _ x hX9 hx9 bqx).mono ?_); rintro ee w10 ⟨hE10, u10, rfl, hu10⟩; have t6 := t5.trans hE10; have hX10 := HX.ext hXd t6; have hy10 := mkx QC.mono hyd t6) | (go_at_call 122; (with_reducible refine (rqden (hidB X b 3) w10 _ y hX10 hy10 bqy).mono ?_); rintro ee w11 ⟨hE11, u11, rfl, hu11⟩; have t7 := t6.trans hE11; have hX11 := HX.ext hXd t7; have hm10 := mkx ZC.mono hu10 hE11) | (go_at_call 121; (with_reducible refine (rimul (hidB X b 3) w11 _ _ (x.den : Int) (y.den : Int) hX11 (hm10.zv (Nat.le_trans cxd (by decide))) (hu11.zv (Nat.le_trans cyd (by decide))) cxd cyd).mono ?_); rintro ee w12 ⟨hE12, u12, rfl, hu12⟩; have t8 := t7.trans hE12; have hX12 := HX.ext hXd t8; have hz9 := mkx ZC.mono hu9 (hE10.trans (hE11.trans hE12))) | (go_at_call 119; (with_reducible refine (rqover (hidB X b 3) w12 _ _ _ _ hX12 hz9 hu12 csum cdd cd0).mono ?_); rintro ee w13 ⟨hE13, u13, rfl, hu13⟩; have t9 := t8.trans hE13; obtain ⟨s13, a13, n13, c13, d13, k13, e13, rfl⟩ := hu13.shape; have bb2 := b2.ext0 (hEd.trans t9); have g0 := bb2.cell 0 rfl; have g1 := bb2.cell 1 rfl; have g2 := bb2.cell 2 rfl; have f0 := bb2.frozen 0; have f1 := bb2.frozen 1; have f2 := bb2.frozen 2))
    rw [hfin.out] at hu13
    obtain ⟨r1, r2⟩ := bb2.set3 (.bool s13) (.slice a13 n13 c13) (.slice d13 k13 e13)
    have h7 := QC.mono _ _ _ _ le_unbox (QC.mono _ _ _ _ (le_store r2 (by omega) (by omega)) hu13)
    have hEf : Ext w _ := ExtX.box (hE1.trans (hEd.trans t9)) r2 (by omega)
    clear g0 g1 g2 f0 f1 f2 k00 k01 k02 k10 k11 k12 hS hB
    go_wp2_with fail
    exact bodyPost_ret (results_box rfl rfl stRat r1 rfl) rfl ⟨hEf, _, rfl, h7⟩
set_option maxRecDepth 100000 in
set_option maxHeartbeats 1600000 in
theorem rqmul (X : Nat -> Bool) (w : World) (u v : Value) (x y : Rat) (hX : HX X w) (hu : QV (mk X w) u x) (hv : QV (mk X w) v y) : Calls Tryz.prog 49 #[u, v] w (ROut X w QC (x * y)) := by
  have hlx := hid hu.hq
  have hly := hid hv.hq
  obtain ⟨s1, a1, n1, c1, d1, k1, e1, rfl⟩ := hu.shape
  obtain ⟨s2, a2, n2, c2, d2, k2, e2, rfl⟩ := hv.shape
  obtain ⟨W, hW, hE, b0, b1, b2, hz⟩ := boxes3 w #[.bool s1, .slice a1 n1 c1, .slice d1 k1 e1] #[.bool s2, .slice a2 n2 c2, .slice d2 k2 e2] #[.bool false, .slice none 0 0, .slice none 0 0] 41 41 41
  have hXW : HX (hidB X w.heap.size 3) W := hX.boxes hz
  have hu1 := QV.mono _ _ _ _ (le_boxes (nb := 3) hE) hu
  have hv1 := QV.mono _ _ _ _ (le_boxes (nb := 3) hE) hv
  obtain ⟨b, hb⟩ : ∃ b, w.heap.size = b := ⟨_, rfl⟩
  have hbw : w.heap.size <= b := by omega
  rw [hb] at b0 b1 b2 hz hXW hu1 hv1
  have hEd : Ext W W.drew := (ExtX.refl W).drew
  have hXd : HX (hidB X b 3) W.drew := hXW
  have hud : QV (mk (hidB X b 3) W.drew) (.agg #[.bool s1, .slice a1 n1 c1, .slice d1 k1 e1]) x := hu1
  have hvd : QV (mk (hidB X b 3) W.drew) (.agg #[.bool s2, .slice a2 n2 c2, .slice d2 k2 e2]) y := hv1
  have k00 := b0.cell 0 rfl
  have k01 := b0.cell 1 rfl
  have k02 := b0.cell 2 rfl
  have k10 := b1.cell 0 rfl
  have k11 := b1.cell 1 rfl
  have k12 := b1.cell 2 rfl
  clear hu hv
  go_enter Tryz.func49, Tryz.ntmps49
  go_upto_region 1 with (fail)
  go_cut [] from 5 to 8 (fun wx => ∃ s3 a3 n3 c3 d3 k3 e3 s4 a4 n4 c4 d4 k4 e4, Bx wx b #[.bool s3, .slice a3 n3 c3, .slice d3 k3 e3] 41 /\ Bx wx (b + 1) #[.bool s4, .slice a4 n4 c4, .slice d4 k4 e4] 41 /\ Bx wx (b + 1 + 1) #[.bool false, .slice none 0 0, .slice none 0 0] 41 /\ QC (mk (hidB X b 3) wx) (.agg #[.bool s3, .slice a3 n3 c3, .slice d3 k3 e3]) x /\ QC (mk (hidB X b 3) wx) (.agg #[.bool s4, .slice a4 n4 c4, .slice d4 k4 e4]) y /\ Ext w wx)
  case first =>
    go_region_with (first | (go_at_call 118; (with_reducible refine (rqtake (hidB X b 3) W.drew _ x hXd hud).mono ?_); rintro ee w5 ⟨hE5, u5, rfl, hq5⟩; obtain ⟨s5, a5, n5, c5, d5, k5, e5, rfl⟩ := hq5.shape; have bb0 := b0.ext0 (hEd.trans hE5); have bb1 := b1.ext0 (hEd.trans hE5); have e00 := bb0.cell 0 rfl; have e01 := bb0.cell 1 rfl; have e02 := bb0.cell 2 rfl; have e10 := bb1.cell 0 rfl; have e11 := bb1.cell 1 rfl; have e12 := bb1.cell 2 rfl) | (go_at_call 118; (with_reducible refine (rqtake (hidB X b 3) w5 _ y (HX.ext hXd hE5) (mkx QV.mono hvd hE5)).mono ?_); rintro ee w6 ⟨hE6, u6, rfl, hq6⟩; obtain ⟨s6, a6, n6, c6, d6, k6, e6, rfl⟩ := hq6.shape; have bb2 := bb0.ext0 hE6; have bb3 := bb1.ext0 hE6; have g00 := bb2.cell 0 rfl; have g01 := bb2.cell 1 rfl; have g02 := bb2.cell 2 rfl; have g10 := bb3.cell 0 rfl; have g11 := bb3.cell 1 rfl; have g12 := bb3.cell 2 rfl; have fr0 := bb2.frozen 0; have fr1 := bb2.frozen 1; have fr4 := bb2.frozen 2; have fr2 := bb3.frozen 0; have fr3 := bb3.frozen 1; have fr5 := bb3.frozen 2))
    all_goals
      obtain ⟨wf, hwf, q0, q1, q2, q3, q4⟩ := two_stores3 (X := X) (nb := 3) bb2 bb3 (hE.trans ((hEd.trans hE5).trans hE6)) hbw (by omega) (.bool s5) (.slice a5 n5 c5) (.slice d5 k5 e5) (.bool s6) (.slice a6 n6 c6) (.slice d6 k6 e6)
      rw [hwf]
      have hfx : QC (mk (hidB X b 3) wf) (.agg #[.bool s5, .slice a5 n5 c5, .slice d5 k5 e5]) x := QC.mono _ _ _ _ q4 (mkx QC.mono hq5 hE6)
      have hfy : QC (mk (hidB X b 3) wf) (.agg #[.bool s6, .slice a6 n6 c6, .slice d6 k6 e6]) y := QC.mono _ _ _ _ q4 hq6
      have q5 := q2 (b + 1 + 1) _ _ (by omega) (by omega) ((b2.ext0 (hEd.trans hE5)).ext0 hE6)
      clear e00 e01 e02 e10 e11 e12 g00 g01 g02 g10 g11 g12 fr0 fr1 fr2 fr3 fr4 fr5 k00 k01 k02 k10 k11 k12 hwf
      go_wp2_with fail
      go_meet
      exact ⟨_, _, _, _, _, _, _, _, _, _, _, _, _, _, q0, q1, q5, hfx, hfy, q3⟩
  case rest =>
    clear k00 k01 k02 k10 k11 k12 b0 b1 b2 hu1 hv1 hud hvd hXd hEd hW
    obtain ⟨s3, a3, n3, c3, d3, k3, e3, s4, a4, n4, c4, d4, k4, e4, b0, b1, b2, hx, hy, hE1⟩ := hcut
    have hzz : w.heap.size + 3 <= wc.heap.size := by have := b2.lt; omega
    obtain ⟨hxz, hxm, hxdn⟩ := hx.num
    obtain ⟨hyz, hym, hydn⟩ := hy.num
    have hXc : HX (hidB X b 3) wc := hX.boxes' hE1 (by have := hzz; omega) hzz
    have k00 := b0.cell 0 rfl
    have k01 := b0.cell 1 rfl
    have k02 := b0.cell 2 rfl
    have k10 := b1.cell 0 rfl
    have k11 := b1.cell 1 rfl
    have k12 := b1.cell 2 rfl
    have hEd : Ext wc wc.drew := (ExtX.refl wc).drew
    have hXd : HX (hidB X b 3) wc.drew := hXc
    have hxd : QC (mk (hidB X b 3) wc.drew) (.agg #[.bool s3, .slice a3 n3 c3, .slice d3 k3 e3]) x := hx
    have hyd : QC (mk (hidB X b 3) wc.drew) (.agg #[.bool s4, .slice a4 n4 c4, .slice d4 k4 e4]) y := hy
    have hxzd : ZC (mk (hidB X b 3) wc.drew) (.agg #[.bool s3, .slice a3 n3 c3]) x.num := hxz
    have hyzd : ZC (mk (hidB X b 3) wc.drew) (.agg #[.bool s4, .slice a4 n4 c4]) y.num := hyz
    have bxn : lg x.num.natAbs <= 549755813888 := Nat.le_trans (Nat.le_trans (hq_num x) hlx.out) (by omega)
    have byn : lg y.num.natAbs <= 549755813888 := Nat.le_trans (Nat.le_trans (hq_num y) hly.out) (by omega)
    have bxd : lg x.den <= 549755813888 := Nat.le_trans (Nat.le_trans (hq_den x) hlx.out) (by omega)
    have byd : lg y.den <= 549755813888 := Nat.le_trans (Nat.le_trans (hq_den y) hly.out) (by omega)
    have bp1 : lg (x.num * (y.den : Int)).natAbs <= 274877906944 := by rw [Int.natAbs_mul, Int.natAbs_natCast]; have := lg_mul x.num.natAbs y.den; have := hq_num x; have := hq_den y; have := hlx.out; have := hly.out; omega
    have bp2 : lg (y.num * (x.den : Int)).natAbs <= 274877906944 := by rw [Int.natAbs_mul, Int.natAbs_natCast]; have := lg_mul y.num.natAbs x.den; have := hq_num y; have := hq_den x; have := hlx.out; have := hly.out; omega
    have bdd : lg (x.den * y.den) <= 274877906944 := by have := lg_mul x.den y.den; have := hq_den x; have := hq_den y; have := hlx.out; have := hly.out; omega
    have bnn : lg (x.num * y.num).natAbs <= 274877906944 := by rw [Int.natAbs_mul]; have := lg_mul x.num.natAbs y.num.natAbs; have := hq_num x; have := hq_num y; have := hlx.out; have := hly.out; omega
    have bd0 : 0 < x.den * y.den := Nat.mul_pos x.den_pos y.den_pos
    have hB := hid (And.intro b0 b1)
    have hS : Hid (∀ W', Ext wc.drew W' -> W'.cell? ⟨b, 0, none⟩ = some (.bool s3) /\ W'.cell? ⟨b, 1, none⟩ = some (.slice a3 n3 c3) /\ W'.cell? ⟨b, 2, none⟩ = some (.slice d3 k3 e3) /\ W'.cell? ⟨b + 1, 0, none⟩ = some (.bool s4) /\ W'.cell? ⟨b + 1, 1, none⟩ = some (.slice a4 n4 c4) /\ W'.cell? ⟨b + 1, 2, none⟩ = some (.slice d4 k4 e4)) :=
      hid fun W' h => ⟨(b0.ext0 (hEd.trans h)).cell 0 rfl, (b0.ext0 (hEd.trans h)).cell 1 rfl, (b0.ext0 (hEd.trans h)).cell 2 rfl, (b1.ext0 (hEd.trans h)).cell 0 rfl, (b1.ext0 (hEd.trans h)).cell 1 rfl, (b1.ext0 (hEd.trans h)).cell 2 rfl⟩
    have bqx : hq x <= 549755813888 := Nat.le_trans hlx.out (by decide)
    have bqy : hq y <= 549755813888 := Nat.le_trans hly.out (by decide)
    have cxn : lg x.num.natAbs <= 274877906944 := Nat.le_trans (Nat.le_trans (hq_num x) hlx.out) (by omega)
    have cyn : lg y.num.natAbs <= 274877906944 := Nat.le_trans (Nat.le_trans (hq_num y) hly.out) (by omega)
    have cxd : lg (x.den : Int).natAbs <= 274877906944 := Nat.le_trans (Nat.le_trans (hq_den x) hlx.out) (by omega)
    have cyd : lg (y.den : Int).natAbs <= 274877906944 := Nat.le_trans (Nat.le_trans (hq_den y) hly.out) (by omega)
    have cdd : lg ((x.den : Int) * (y.den : Int)).natAbs <= 274877906944 := by rw [<- Int.natCast_mul, Int.natAbs_natCast]; exact bdd
    have cd0 : (x.den : Int) * (y.den : Int) ≠ 0 := Int.mul_ne_zero (by have := x.den_nz; omega) (by have := y.den_nz; omega)
    have hfin : Hid (((x.num * y.num : Int) : Rat) / (((x.den : Int) * (y.den : Int) : Int) : Rat) = x * y) := hid (by
      rw [<- Int.natCast_mul, Rat.intCast_natCast, <- Rat.mkRat_eq_div]; exact (Rat.mul_def' x y).symm)
    go_wp2_with fail
    go_region_held3 (fun w' => w'.cell? ⟨b, 0, none⟩ = some (.bool s3) /\ w'.cell? ⟨b, 1, none⟩ = some (.slice a3 n3 c3) /\ w'.cell? ⟨b, 2, none⟩ = some (.slice d3 k3 e3) /\ w'.cell? ⟨b + 1, 0, none⟩ = some (.bool s4) /\ w'.cell? ⟨b + 1, 1, none⟩ = some (.slice a4 n4 c4) /\ w'.cell? ⟨b + 1, 2, none⟩ = some (.slice d4 k4 e4))
      (first | exact hS.out _ t1 | exact hS.out _ t2 | exact hS.out _ t3 | exact hS.out _ t4 | exact hS.out _ t5 | exact ⟨((hB.out.1.ext0 (hEd.trans t5)).ext (bb2.set3 _ _ _).2 (ob_other (by omega))).cell 0 rfl, ((hB.out.1.ext0 (hEd.trans t5)).ext (bb2.set3 _ _ _).2 (ob_other (by omega))).cell 1 rfl, ((hB.out.1.ext0 (hEd.trans t5)).ext (bb2.set3 _ _ _).2 (ob_other (by omega))).cell 2 rfl, ((hB.out.2.ext0 (hEd.trans t5)).ext (bb2.set3 _ _ _).2 (ob_other (by omega))).cell 0 rfl, ((hB.out.2.ext0 (hEd.trans t5)).ext (bb2.set3 _ _ _).2 (ob_other (by omega))).cell 1 rfl, ((hB.out.2.ext0 (hEd.trans t5)).ext (bb2.set3 _ _ _).2 (ob_other (by omega))).cell 2 rfl⟩ | go_keep)
      (first | (go_at_call 121; (with_reducible refine (rimul (hidB X b 3) wc.drew _ _ x.num y.num hXd (hxzd.zv (Nat.le_trans cxn (by decide))) (hyzd.zv (Nat.le_trans cyn (by decide))) cxn cyn).mono ?_); rintro ee w5 ⟨t1, u5, rfl, hu5⟩; have hX5 := HX.ext hXd t1; have hx5 := mkx QC.mono hxd t1) | (go_at_call 122; (with_reducible refine (rqden (hidB X b 3) w5 _ x hX5 hx5 bqx).mono ?_); rintro ee w6 ⟨hE6, u6, rfl, hu6⟩; have t2 := t1.trans hE6; have hX6 := HX.ext hXd t2; have hy6 := mkx QC.mono hyd t2) | (go_at_call 122; (with_reducible refine (rqden (hidB X b 3) w6 _ y hX6 hy6 bqy).mono ?_); rintro ee w7 ⟨hE7, u7, rfl, hu7⟩; have t3 := t2.trans hE7; have hX7 := HX.ext hXd t3; have hm6 := mkx ZC.mono hu6 hE7) | (go_at_call 121; (with_reducible refine (rimul (hidB X b 3) w7 _ _ (x.den : Int) (y.den : Int) hX7 (hm6.zv (Nat.le_trans cxd (by decide))) (hu7.zv (Nat.le_trans cyd (by decide))) cxd cyd).mono ?_); rintro ee w8 ⟨hE8, u8, rfl, hu8⟩; have t4 := t3.trans hE8; have hX8 := HX.ext hXd t4; have hz5 := mkx ZC.mono hu5 (hE6.trans (hE7.trans hE8))) | (go_at_call 119; (with_reducible refine (rqover (hidB X b 3) w8 _ _ _ _ hX8 hz5 hu8 bnn cdd cd0).mono ?_); rintro ee w9 ⟨hE9, u9, rfl, hu9⟩; have t5 := t4.trans hE9; obtain ⟨s13, a13, n13, c13, d13, k13, e13, rfl⟩ := hu9.shape; have bb2 := b2.ext0 (hEd.trans t5); have g0 := bb2.cell 0 rfl; have g1 := bb2.cell 1 rfl; have g2 := bb2.cell 2 rfl; have f0 := bb2.frozen 0; have f1 := bb2.frozen 1; have f2 := bb2.frozen 2))
    rw [hfin.out] at hu9
    obtain ⟨r1, r2⟩ := bb2.set3 (.bool s13) (.slice a13 n13 c13) (.slice d13 k13 e13)
    have h7 := QC.mono _ _ _ _ le_unbox (QC.mono _ _ _ _ (le_store r2 (by omega) (by omega)) hu9)
    have hEf : Ext w _ := ExtX.box (hE1.trans (hEd.trans t5)) r2 (by omega)
    clear g0 g1 g2 f0 f1 f2 k00 k01 k02 k10 k11 k12 hS hB
    go_wp2_with fail
    exact bodyPost_ret (results_box rfl rfl stRat r1 rfl) rfl ⟨hEf, _, rfl, h7⟩
set_option maxRecDepth 100000 in
set_option maxHeartbeats 1600000 in
theorem rqquo (X : Nat -> Bool) (w : World) (u v : Value) (x y : Rat) (hX : HX X w) (hu : QV (mk X w) u x) (hv : QV (mk X w) v y) (hy0 : y ≠ 0) : Calls Tryz.prog 240 #[u, v] w (ROut X w QC (x / y)) := by
  have hlx := hid hu.hq
  have hly := hid hv.hq
  obtain ⟨s1, a1, n1, c1, d1, k1, e1, rfl⟩ := hu.shape
  obtain ⟨s2, a2, n2, c2, d2, k2, e2, rfl⟩ := hv.shape
  obtain ⟨W, hW, hE, b0, b1, b2, hz⟩ := boxes3 w #[.bool s1, .slice a1 n1 c1, .slice d1 k1 e1] #[.bool s2, .slice a2 n2 c2, .slice d2 k2 e2] #[.bool false, .slice none 0 0, .slice none 0 0] 41 41 41
  have hXW : HX (hidB X w.heap.size 3) W := hX.boxes hz
  have hu1 := QV.mono _ _ _ _ (le_boxes (nb := 3) hE) hu
  have hv1 := QV.mono _ _ _ _ (le_boxes (nb := 3) hE) hv
  obtain ⟨b, hb⟩ : ∃ b, w.heap.size = b := ⟨_, rfl⟩
  have hbw : w.heap.size <= b := by omega
  rw [hb] at b0 b1 b2 hz hXW hu1 hv1
  have hEd : Ext W W.drew := (ExtX.refl W).drew
  have hXd : HX (hidB X b 3) W.drew := hXW
  have hud : QV (mk (hidB X b 3) W.drew) (.agg #[.bool s1, .slice a1 n1 c1, .slice d1 k1 e1]) x := hu1
  have hvd : QV (mk (hidB X b 3) W.drew) (.agg #[.bool s2, .slice a2 n2 c2, .slice d2 k2 e2]) y := hv1
  have k00 := b0.cell 0 rfl
  have k01 := b0.cell 1 rfl
  have k02 := b0.cell 2 rfl
  have k10 := b1.cell 0 rfl
  have k11 := b1.cell 1 rfl
  have k12 := b1.cell 2 rfl
  clear hu hv
  go_enter Tryz.func240, Tryz.ntmps240
  go_upto_region 1 with (fail)
  go_cut [] from 5 to 8 (fun wx => ∃ s3 a3 n3 c3 d3 k3 e3 s4 a4 n4 c4 d4 k4 e4, Bx wx b #[.bool s3, .slice a3 n3 c3, .slice d3 k3 e3] 41 /\ Bx wx (b + 1) #[.bool s4, .slice a4 n4 c4, .slice d4 k4 e4] 41 /\ Bx wx (b + 1 + 1) #[.bool false, .slice none 0 0, .slice none 0 0] 41 /\ QC (mk (hidB X b 3) wx) (.agg #[.bool s3, .slice a3 n3 c3, .slice d3 k3 e3]) x /\ QC (mk (hidB X b 3) wx) (.agg #[.bool s4, .slice a4 n4 c4, .slice d4 k4 e4]) y /\ Ext w wx)
  case first =>
    go_region_with (first | (go_at_call 118; (with_reducible refine (rqtake (hidB X b 3) W.drew _ x hXd hud).mono ?_); rintro ee w5 ⟨hE5, u5, rfl, hq5⟩; obtain ⟨s5, a5, n5, c5, d5, k5, e5, rfl⟩ := hq5.shape; have bb0 := b0.ext0 (hEd.trans hE5); have bb1 := b1.ext0 (hEd.trans hE5); have e00 := bb0.cell 0 rfl; have e01 := bb0.cell 1 rfl; have e02 := bb0.cell 2 rfl; have e10 := bb1.cell 0 rfl; have e11 := bb1.cell 1 rfl; have e12 := bb1.cell 2 rfl) | (go_at_call 118; (with_reducible refine (rqtake (hidB X b 3) w5 _ y (HX.ext hXd hE5) (mkx QV.mono hvd hE5)).mono ?_); rintro ee w6 ⟨hE6, u6, rfl, hq6⟩; obtain ⟨s6, a6, n6, c6, d6, k6, e6, rfl⟩ := hq6.shape; have bb2 := bb0.ext0 hE6; have bb3 := bb1.ext0 hE6; have g00 := bb2.cell 0 rfl; have g01 := bb2.cell 1 rfl; have g02 := bb2.cell 2 rfl; have g10 := bb3.cell 0 rfl; have g11 := bb3.cell 1 rfl; have g12 := bb3.cell 2 rfl; have fr0 := bb2.frozen 0; have fr1 := bb2.frozen 1; have fr4 := bb2.frozen 2; have fr2 := bb3.frozen 0; have fr3 := bb3.frozen 1; have fr5 := bb3.frozen 2))
    all_goals
      obtain ⟨wf, hwf, q0, q1, q2, q3, q4⟩ := two_stores3 (X := X) (nb := 3) bb2 bb3 (hE.trans ((hEd.trans hE5).trans hE6)) hbw (by omega) (.bool s5) (.slice a5 n5 c5) (.slice d5 k5 e5) (.bool s6) (.slice a6 n6 c6) (.slice d6 k6 e6)
      rw [hwf]
      have hfx : QC (mk (hidB X b 3) wf) (.agg #[.bool s5, .slice a5 n5 c5, .slice d5 k5 e5]) x := QC.mono _ _ _ _ q4 (mkx QC.mono hq5 hE6)
      have hfy : QC (mk (hidB X b 3) wf) (.agg #[.bool s6, .slice a6 n6 c6, .slice d6 k6 e6]) y := QC.mono _ _ _ _ q4 hq6
      have q5 := q2 (b + 1 + 1) _ _ (by omega) (by omega) ((b2.ext0 (hEd.trans hE5)).ext0 hE6)
      clear e00 e01 e02 e10 e11 e12 g00 g01 g02 g10 g11 g12 fr0 fr1 fr2 fr3 fr4 fr5 k00 k01 k02 k10 k11 k12 hwf
      go_wp2_with fail
      go_meet
      exact ⟨_, _, _, _, _, _, _, _, _, _, _, _, _, _, q0, q1, q5, hfx, hfy, q3⟩
  case rest =>
    clear k00 k01 k02 k10 k11 k12 b0 b1 b2 hu1 hv1 hud hvd hXd hEd hW
    obtain ⟨s3, a3, n3, c3, d3, k3, e3, s4, a4, n4, c4, d4, k4, e4, b0, b1, b2, hx, hy, hE1⟩ := hcut
    have hzz : w.heap.size + 3 <= wc.heap.size := by have := b2.lt; omega
    obtain ⟨hxz, hxm, hxdn⟩ := hx.num
    obtain ⟨hyz, hym, hydn⟩ := hy.num
    have hXc : HX (hidB X b 3) wc := hX.boxes' hE1 (by have := hzz; omega) hzz
    have k00 := b0.cell 0 rfl
    have k01 := b0.cell 1 rfl
    have k02 := b0.cell 2 rfl
    have k10 := b1.cell 0 rfl
    have k11 := b1.cell 1 rfl
    have k12 := b1.cell 2 rfl
    have hEd : Ext wc wc.drew := (ExtX.refl wc).drew
    have hXd : HX (hidB X b 3) wc.drew := hXc
    have hxd : QC (mk (hidB X b 3) wc.drew) (.agg #[.bool s3, .slice a3 n3 c3, .slice d3 k3 e3]) x := hx
    have hyd : QC (mk (hidB X b 3) wc.drew) (.agg #[.bool s4, .slice a4 n4 c4, .slice d4 k4 e4]) y := hy
    have hxzd : ZC (mk (hidB X b 3) wc.drew) (.agg #[.bool s3, .slice a3 n3 c3]) x.num := hxz
    have hyzd : ZC (mk (hidB X b 3) wc.drew) (.agg #[.bool s4, .slice a4 n4 c4]) y.num := hyz
    have bxn : lg x.num.natAbs <= 549755813888 := Nat.le_trans (Nat.le_trans (hq_num x) hlx.out) (by omega)
    have byn : lg y.num.natAbs <= 549755813888 := Nat.le_trans (Nat.le_trans (hq_num y) hly.out) (by omega)
    have bxd : lg x.den <= 549755813888 := Nat.le_trans (Nat.le_trans (hq_den x) hlx.out) (by omega)
    have byd : lg y.den <= 549755813888 := Nat.le_trans (Nat.le_trans (hq_den y) hly.out) (by omega)
    have bp1 : lg (x.num * (y.den : Int)).natAbs <= 274877906944 := by rw [Int.natAbs_mul, Int.natAbs_natCast]; have := lg_mul x.num.natAbs y.den; have := hq_num x; have := hq_den y; have := hlx.out; have := hly.out; omega
    have bp2 : lg (y.num * (x.den : Int)).natAbs <= 274877906944 := by rw [Int.natAbs_mul, Int.natAbs_natCast]; have := lg_mul y.num.natAbs x.den; have := hq_num y; have := hq_den x; have := hlx.out; have := hly.out; omega
    have bdd : lg (x.den * y.den) <= 274877906944 := by have := lg_mul x.den y.den; have := hq_den x; have := hq_den y; have := hlx.out; have := hly.out; omega
    have bnn : lg (x.num * y.num).natAbs <= 274877906944 := by rw [Int.natAbs_mul]; have := lg_mul x.num.natAbs y.num.natAbs; have := hq_num x; have := hq_num y; have := hlx.out; have := hly.out; omega
    have bd0 : 0 < x.den * y.den := Nat.mul_pos x.den_pos y.den_pos
    have hB := hid (And.intro b0 b1)
    have hS : Hid (∀ W', Ext wc.drew W' -> W'.cell? ⟨b, 0, none⟩ = some (.bool s3) /\ W'.cell? ⟨b, 1, none⟩ = some (.slice a3 n3 c3) /\ W'.cell? ⟨b, 2, none⟩ = some (.slice d3 k3 e3) /\ W'.cell? ⟨b + 1, 0, none⟩ = some (.bool s4) /\ W'.cell? ⟨b + 1, 1, none⟩ = some (.slice a4 n4 c4) /\ W'.cell? ⟨b + 1, 2, none⟩ = some (.slice d4 k4 e4)) :=
      hid fun W' h => ⟨(b0.ext0 (hEd.trans h)).cell 0 rfl, (b0.ext0 (hEd.trans h)).cell 1 rfl, (b0.ext0 (hEd.trans h)).cell 2 rfl, (b1.ext0 (hEd.trans h)).cell 0 rfl, (b1.ext0 (hEd.trans h)).cell 1 rfl, (b1.ext0 (hEd.trans h)).cell 2 rfl⟩
    have bqx : hq x <= 549755813888 := Nat.le_trans hlx.out (by decide)
    have bqy : hq y <= 549755813888 := Nat.le_trans hly.out (by decide)
    have cxn : lg x.num.natAbs <= 274877906944 := Nat.le_trans (Nat.le_trans (hq_num x) hlx.out) (by omega)
    have cyn : lg y.num.natAbs <= 274877906944 := Nat.le_trans (Nat.le_trans (hq_num y) hly.out) (by omega)
    have cxd : lg (x.den : Int).natAbs <= 274877906944 := Nat.le_trans (Nat.le_trans (hq_den x) hlx.out) (by omega)
    have cyd : lg (y.den : Int).natAbs <= 274877906944 := Nat.le_trans (Nat.le_trans (hq_den y) hly.out) (by omega)
    have cdd : lg ((x.den : Int) * (y.den : Int)).natAbs <= 274877906944 := by rw [<- Int.natCast_mul, Int.natAbs_natCast]; exact bdd
    have cd0 : (x.den : Int) * (y.den : Int) ≠ 0 := Int.mul_ne_zero (by have := x.den_nz; omega) (by have := y.den_nz; omega)
    have cp2 : lg ((x.den : Int) * y.num).natAbs <= 274877906944 := by rw [Int.mul_comm]; exact bp2
    have cq0 : (x.den : Int) * y.num ≠ 0 := Int.mul_ne_zero (by have := x.den_nz; omega) (fun h => hy0 (Rat.num_eq_zero.1 h))
    have hfin : Hid (((x.num * (y.den : Int) : Int) : Rat) / (((x.den : Int) * y.num : Int) : Rat) = x / y) := hid (by rw [Int.mul_comm (x.den : Int)]; exact div_eq x y)
    go_wp2_with fail
    go_region_held3 (fun w' => w'.cell? ⟨b, 0, none⟩ = some (.bool s3) /\ w'.cell? ⟨b, 1, none⟩ = some (.slice a3 n3 c3) /\ w'.cell? ⟨b, 2, none⟩ = some (.slice d3 k3 e3) /\ w'.cell? ⟨b + 1, 0, none⟩ = some (.bool s4) /\ w'.cell? ⟨b + 1, 1, none⟩ = some (.slice a4 n4 c4) /\ w'.cell? ⟨b + 1, 2, none⟩ = some (.slice d4 k4 e4))
      (first | exact hS.out _ t1 | exact hS.out _ t2 | exact hS.out _ t3 | exact hS.out _ t4 | exact hS.out _ t5 | exact ⟨((hB.out.1.ext0 (hEd.trans t5)).ext (bb2.set3 _ _ _).2 (ob_other (by omega))).cell 0 rfl, ((hB.out.1.ext0 (hEd.trans t5)).ext (bb2.set3 _ _ _).2 (ob_other (by omega))).cell 1 rfl, ((hB.out.1.ext0 (hEd.trans t5)).ext (bb2.set3 _ _ _).2 (ob_other (by omega))).cell 2 rfl, ((hB.out.2.ext0 (hEd.trans t5)).ext (bb2.set3 _ _ _).2 (ob_other (by omega))).cell 0 rfl, ((hB.out.2.ext0 (hEd.trans t5)).ext (bb2.set3 _ _ _).2 (ob_other (by omega))).cell 1 rfl, ((hB.out.2.ext0 (hEd.trans t5)).ext (bb2.set3 _ _ _).2 (ob_other (by omega))).cell 2 rfl⟩ | go_keep)
      (first | (go_at_call 122; (with_reducible refine (rqden (hidB X b 3) wc.drew _ y hXd hyd bqy).mono ?_); rintro ee w5 ⟨t1, u5, rfl, hu5⟩; have hX5 := HX.ext hXd t1; have hx5 := mkx ZC.mono hxzd t1) | (go_at_call 121; (with_reducible refine (rimul (hidB X b 3) w5 _ _ x.num (y.den : Int) hX5 (hx5.zv (Nat.le_trans cxn (by decide))) (hu5.zv (Nat.le_trans cyd (by decide))) cxn cyd).mono ?_); rintro ee w6 ⟨hE6, u6, rfl, hu6⟩; have t2 := t1.trans hE6; have hX6 := HX.ext hXd t2; have hx6 := mkx QC.mono hxd t2) | (go_at_call 122; (with_reducible refine (rqden (hidB X b 3) w6 _ x hX6 hx6 bqx).mono ?_); rintro ee w7 ⟨hE7, u7, rfl, hu7⟩; have t3 := t2.trans hE7; have hX7 := HX.ext hXd t3; have hy7 := mkx ZC.mono hyzd t3) | (go_at_call 121; (with_reducible refine (rimul (hidB X b 3) w7 _ _ (x.den : Int) y.num hX7 (hu7.zv (Nat.le_trans cxd (by decide))) (hy7.zv (Nat.le_trans cyn (by decide))) cxd cyn).mono ?_); rintro ee w8 ⟨hE8, u8, rfl, hu8⟩; have t4 := t3.trans hE8; have hX8 := HX.ext hXd t4; have hz6 := mkx ZC.mono hu6 (hE7.trans hE8)) | (go_at_call 119; (with_reducible refine (rqover (hidB X b 3) w8 _ _ _ _ hX8 hz6 hu8 bp1 cp2 cq0).mono ?_); rintro ee w9 ⟨hE9, u9, rfl, hu9⟩; have t5 := t4.trans hE9; obtain ⟨s13, a13, n13, c13, d13, k13, e13, rfl⟩ := hu9.shape; have bb2 := b2.ext0 (hEd.trans t5); have g0 := bb2.cell 0 rfl; have g1 := bb2.cell 1 rfl; have g2 := bb2.cell 2 rfl; have f0 := bb2.frozen 0; have f1 := bb2.frozen 1; have f2 := bb2.frozen 2))
    rw [hfin.out] at hu9
    obtain ⟨r1, r2⟩ := bb2.set3 (.bool s13) (.slice a13 n13 c13) (.slice d13 k13 e13)
    have h7 := QC.mono _ _ _ _ le_unbox (QC.mono _ _ _ _ (le_store r2 (by omega) (by omega)) hu9)
    have hEf : Ext w _ := ExtX.box (hE1.trans (hEd.trans t5)) r2 (by omega)
    clear g0 g1 g2 f0 f1 f2 k00 k01 k02 k10 k11 k12 hS hB
    go_wp2_with fail
    exact bodyPost_ret (results_box rfl rfl stRat r1 rfl) rfl ⟨hEf, _, rfl, h7⟩
end Go.Proofs.YtnnpfhoigmegcaaGreat
namespace Go.Proofs.YtnnpfhoigmegcaaGreat
open Go.RowKit Go.Rep Go.Lim
set_option maxRecDepth 100000 in
theorem rtimes (X : Nat -> Bool) (w : World) (u v : Value) (l : List Rat) (c : Rat) (hX : HX X w) (hu : RV (mk X w) u l) (hv : QV (mk X w) v c) (hl : l.length <= 1000000) : Calls Tryz.prog 285 #[u, v] w (ROut X w RC (l.map (· * c))) := by
  obtain ⟨ao, ca, rfl, hca, hsa0⟩ := hu
  have hha := hsa0.hd
  obtain ⟨s2, a2, n2, c2, d2, k2, e2, rfl⟩ := hv.shape
  obtain ⟨W, hW, hEW, b0, hz⟩ := boxes1 w #[.bool s2, .slice a2 n2 c2, .slice d2 k2 e2] 41
  have hXW : HX X W := hX.ext hEW
  have hsa := hsa0.mono QV.mono (mk_ext hEW)
  have hvW := mkx QV.mono hv hEW
  obtain ⟨b, hb⟩ : ∃ b, w.heap.size = b := ⟨_, rfl⟩
  rw [hb] at b0 hz
  obtain ⟨L, hL⟩ : ∃ L, l.map (· * c) = L := ⟨_, rfl⟩
  have hLl : L.length = l.length := by rw [<- hL]; simp
  have hLi := hid (show ∀ i (hi : i < l.length) (hi' : i < L.length), L[i] = l[i] * c from fun i hi hi' => by subst hL; simp)
  rw [hL]
  clear hL hsa0 hv
  go_enter Tryz.func285, Tryz.ntmps285
  go_wp2_with fail
  go_loopw [5, 6] (fun o cc wr => ∃ (i : Nat) (oo : Option Addr) (co : Nat), cc = .int .i64 i /\ o = .slice oo i co /\ i <= l.length /\ OL QC 3 X W.heap.size 41 wr oo co (L.take i) /\ Ext W wr) (fun _ cc _ => l.length - (intOf cc).toNat)
  case atStart => exact ⟨0, none, 0, rfl, rfl, Nat.zero_le _, OL.nil _ _ _ _ _ _, ExtX.refl _⟩
  case round =>
    obtain ⟨i, oo, co, rfl, rfl, hi, hO, hE⟩ := hrel
    have hXr : HX X wr := hXW.ext hE
    have hXu : HX (un X oo) wr := hO.unX hXr
    have hbase := hE.size
    by_cases hlt : i < l.length
    · have hsr : Sl QV 3 (mk (un X oo) wr) ao l := hsa.old QV.mono hE (fun j hj => hO.ob_lt hj)
      have hltL : i < L.length := by omega
      have htk := hid (take_snoc L i hltL)
      have hln := hid (len_take (l := L) (i := i) (by omega))
      obtain ⟨g1, o1, s1, a1, n1, c1, d1, k1, e1, hg1, hX1, hc1, hq1⟩ := hsr.rat QV.shaped i hlt
      have hob1 := (un_false hX1).2
      have hobb : ob oo b = false := hO.ob_lt (by omega)
      have i1 : ∀ W, (Instr.indexAt 26 (.slice ao l.length ca) (.int .i64 (i : Int))).run Tryz.prog W = .ok (.pointer (some ⟨g1, o1, none⟩)) W := by rw [<- hg1]; exact run_indexAt_adr slRat ao l.length ca .i64 i hha (by omega)
      have hEd : Ext wr wr.drew := (ExtX.refl wr).drew
      have hS : Hid (∀ Y W', ExtX Y wr.drew W' -> Y g1 = false -> Y b = false -> W'.cell? ⟨g1, o1, none⟩ = some (.bool s1) /\ W'.cell? ⟨g1, o1 + 1, none⟩ = some (.slice a1 n1 c1) /\ W'.cell? ⟨g1, o1 + 2, none⟩ = some (.slice d1 k1 e1) /\ W'.cell? ⟨b, 0, none⟩ = some (.bool s2) /\ W'.cell? ⟨b, 1, none⟩ = some (.slice a2 n2 c2) /\ W'.cell? ⟨b, 2, none⟩ = some (.slice d2 k2 e2)) := hid fun Y W' h hg hb => by
        have p1 := hc1.out Y W' ((ExtX.of hEd).trans h) hg
        have b1 := (b0.ext0 (hE.trans hEd)).ext h hb
        exact ⟨p1.1, p1.2.1, p1.2.2, b1.cell 0 rfl, b1.cell 1 rfl, b1.cell 2 rfl⟩
      obtain ⟨k00, k01, k02, k10, k11, k12⟩ := hS.out noY wr.drew (ExtX.refl _) rfl rfl
      have hxd : QV (mk (un X oo) wr.drew) (.agg #[.bool s1, .slice a1 n1 c1, .slice d1 k1 e1]) l[i] := hq1
      have hvd : QV (mk (un X oo) wr.drew) (.agg #[.bool s2, .slice a2 n2 c2, .slice d2 k2 e2]) c := old_un QV.mono hvW (hE.trans hEd) (fun j hj => hO.ob_lt hj)
      have hXd : HX (un X oo) wr.drew := hXu
      have hyi := hLi.out i hlt hltL
      rw [hyi] at htk
      clear hc1 hg1 hq1
      go_wp2_with fail
      go_region_held3 (fun w' => w'.cell? ⟨g1, o1, none⟩ = some (.bool s1) /\ w'.cell? ⟨g1, o1 + 1, none⟩ = some (.slice a1 n1 c1) /\ w'.cell? ⟨g1, o1 + 2, none⟩ = some (.slice d1 k1 e1) /\ w'.cell? ⟨b, 0, none⟩ = some (.bool s2) /\ w'.cell? ⟨b, 1, none⟩ = some (.slice a2 n2 c2) /\ w'.cell? ⟨b, 2, none⟩ = some (.slice d2 k2 e2))
        (first | exact hS.out noY _ t1 rfl rfl | exact hS.out noY _ (ExtX.alloc t1 _) rfl rfl | exact hS.out (ob oo) _ ((ExtX.of t1).trans hE7) hob1 hobb | go_keep)
        (first | (go_at_call 49; (with_reducible refine (rqmul (un X oo) wr.drew _ _ _ c hXd hxd hvd).mono ?_); rintro ee w6 ⟨t1, u6, rfl, hu6⟩; obtain ⟨s6, a6, n6, c6, d6, k6, e6, rfl⟩ := hu6.shape; have hO6 := hO.ext0 QC.elem (hEd.trans t1); have hb6 := (hEd.trans t1).size; have hX6 := hXr.ext (hEd.trans t1)) | (refine step_append1 (l := L.take i) rfl (by rfl) slRat rfl QC.elem (by omega) hX6 i hln.out rfl rfl hO6 (.agg #[.bool s6, .slice a6 n6 c6, .slice d6 k6 e6]) (l[i] * c) rfl hu6 (by omega) (by omega) ?_; intro oo2 co2 w7 hO7 hE7 hor))
      have hE8 := (hE.trans (hEd.trans t1)).own hO6 (Nat.le_refl _) hE7
      rw [htk.out] at hO7
      clear k00 k01 k02 k10 k11 k12
      go_wp2_with fail
      go_roundw
      case rel => exact ⟨i + 1, oo2, co2, by go_num, by go_num, by omega, hO7, hE8⟩
      case measure => simp [intOf]; omega
    · have hil : i = l.length := by omega
      subst hil
      rw [List.take_of_length_le (by omega)] at hO
      have hc := hO.lenCap
      have hs := hO.sl QC.elem
      go_wp2_with fail
      go_ret
      exact ⟨hEW.trans hE, _, rfl, oo, co, by rw [hLl]; rfl, hc, hs⟩
set_option maxRecDepth 100000 in
theorem rplus (X : Nat -> Bool) (w : World) (u v : Value) (l m : List Rat) (hX : HX X w) (hu : RV (mk X w) u l) (hv : RV (mk X w) v m) (hl : l.length <= 1000000) (hml : m.length = l.length) : Calls Tryz.prog 286 #[u, v] w (ROut X w RC (List.zipWith (· + ·) l m)) := by
  obtain ⟨ao, ca, rfl, hca, hsa⟩ := hu
  have hha := hsa.hd
  obtain ⟨bo, cb, rfl, hcb, hsb⟩ := hv
  have hhb := hsb.hd
  have hml1 : m.length <= l.length := by omega
  have hml2 : l.length <= m.length := by omega
  obtain ⟨L, hL⟩ : ∃ L, List.zipWith (· + ·) l m = L := ⟨_, rfl⟩
  have hLl : L.length = l.length := by rw [<- hL]; simp; omega
  have hLi := hid (show ∀ i (hi : i < l.length) (hj : i < m.length) (hi' : i < L.length), L[i] = l[i] + m[i] from fun i hi hj hi' => by subst hL; simp)
  rw [hL]
  have hLl1 : L.length <= l.length := by omega
  have hLl2 : l.length <= L.length := by omega
  have hLl' := hid hLl
  clear hL hml hLl
  go_enter Tryz.func286, Tryz.ntmps286
  go_wp2_with fail
  go_loopw [5, 6] (fun o cc wr => ∃ (i : Nat) (oo : Option Addr) (co : Nat), cc = .int .i64 i /\ o = .slice oo i co /\ i <= l.length /\ OL QC 3 X w.heap.size 41 wr oo co (L.take i) /\ Ext w wr) (fun _ cc _ => l.length - (intOf cc).toNat)
  case atStart => exact ⟨0, none, 0, rfl, rfl, Nat.zero_le _, OL.nil _ _ _ _ _ _, ExtX.refl _⟩
  case round =>
    obtain ⟨i, oo, co, rfl, rfl, hi, hO, hE⟩ := hrel
    have hXr : HX X wr := hX.ext hE
    have hXu : HX (un X oo) wr := hO.unX hXr
    have hbase := hE.size
    by_cases hlt : i < l.length
    · have hsr : Sl QV 3 (mk (un X oo) wr) ao l := hsa.old QV.mono hE (fun j hj => hO.ob_lt hj)
      have hltL : i < L.length := by omega
      have htk := hid (take_snoc L i hltL)
      have hln := hid (len_take (l := L) (i := i) (by omega))
      have hltm : i < m.length := by omega
      have hsr2 : Sl QV 3 (mk (un X oo) wr) bo m := hsb.old QV.mono hE (fun j hj => hO.ob_lt hj)
      obtain ⟨g2, o2, s2, a2, n2, c2, d2, k2, e2, hg2, hX2, hc2, hq2⟩ := hsr2.rat QV.shaped i hltm
      obtain ⟨g1, o1, s1, a1, n1, c1, d1, k1, e1, hg1, hX1, hc1, hq1⟩ := hsr.rat QV.shaped i hlt
      have hob1 := (un_false hX1).2
      have hobb := (un_false hX2).2
      have i2 : ∀ W, (Instr.indexAt 26 (.slice bo m.length cb) (.int .i64 (i : Int))).run Tryz.prog W = .ok (.pointer (some ⟨g2, o2, none⟩)) W := by rw [<- hg2]; exact run_indexAt_adr slRat bo m.length cb .i64 i hhb (by omega)
      have i1 : ∀ W, (Instr.indexAt 26 (.slice ao l.length ca) (.int .i64 (i : Int))).run Tryz.prog W = .ok (.pointer (some ⟨g1, o1, none⟩)) W := by rw [<- hg1]; exact run_indexAt_adr slRat ao l.length ca .i64 i hha (by omega)
      have hEd : Ext wr wr.drew := (ExtX.refl wr).drew
      have hS : Hid (∀ Y W', ExtX Y wr.drew W' -> Y g1 = false -> Y g2 = false -> W'.cell? ⟨g1, o1, none⟩ = some (.bool s1) /\ W'.cell? ⟨g1, o1 + 1, none⟩ = some (.slice a1 n1 c1) /\ W'.cell? ⟨g1, o1 + 2, none⟩ = some (.slice d1 k1 e1) /\ W'.cell? ⟨g2, o2, none⟩ = some (.bool s2) /\ W'.cell? ⟨g2, o2 + 1, none⟩ = some (.slice a2 n2 c2) /\ W'.cell? ⟨g2, o2 + 2, none⟩ = some (.slice d2 k2 e2)) := hid fun Y W' h hg hb => by
        have p1 := hc1.out Y W' ((ExtX.of hEd).trans h) hg
        have p2 := hc2.out Y W' ((ExtX.of hEd).trans h) hb
        exact ⟨p1.1, p1.2.1, p1.2.2, p2.1, p2.2.1, p2.2.2⟩
      obtain ⟨k00, k01, k02, k10, k11, k12⟩ := hS.out noY wr.drew (ExtX.refl _) rfl rfl
      have hxd : QV (mk (un X oo) wr.drew) (.agg #[.bool s1, .slice a1 n1 c1, .slice d1 k1 e1]) l[i] := hq1
      have hvd : QV (mk (un X oo) wr.drew) (.agg #[.bool s2, .slice a2 n2 c2, .slice d2 k2 e2]) m[i] := hq2
      have hXd : HX (un X oo) wr.drew := hXu
      have hyi := hLi.out i hlt hltm hltL
      rw [hyi] at htk
      clear hc1 hg1 hq1 hc2 hg2 hq2
      go_wp2_with fail
      go_region_held3 (fun w' => w'.cell? ⟨g1, o1, none⟩ = some (.bool s1) /\ w'.cell? ⟨g1, o1 + 1, none⟩ = some (.slice a1 n1 c1) /\ w'.cell? ⟨g1, o1 + 2, none⟩ = some (.slice d1 k1 e1) /\ w'.cell? ⟨g2, o2, none⟩ = some (.bool s2) /\ w'.cell? ⟨g2, o2 + 1, none⟩ = some (.slice a2 n2 c2) /\ w'.cell? ⟨g2, o2 + 2, none⟩ = some (.slice d2 k2 e2))
        (first | exact hS.out noY _ t1 rfl rfl | exact hS.out noY _ (ExtX.alloc t1 _) rfl rfl | exact hS.out (ob oo) _ ((ExtX.of t1).trans hE7) hob1 hobb | go_keep)
        (first | (go_at_call 48; (with_reducible refine (rqadd (un X oo) wr.drew _ _ _ _ hXd hxd hvd).mono ?_); rintro ee w6 ⟨t1, u6, rfl, hu6⟩; obtain ⟨s6, a6, n6, c6, d6, k6, e6, rfl⟩ := hu6.shape; have hO6 := hO.ext0 QC.elem (hEd.trans t1); have hb6 := (hEd.trans t1).size; have hX6 := hXr.ext (hEd.trans t1)) | (refine step_append1 (l := L.take i) rfl (by rfl) slRat rfl QC.elem (by omega) hX6 i hln.out rfl rfl hO6 (.agg #[.bool s6, .slice a6 n6 c6, .slice d6 k6 e6]) (l[i] + m[i]) rfl hu6 (by omega) (by omega) ?_; intro oo2 co2 w7 hO7 hE7 hor))
      have hE8 := (hE.trans (hEd.trans t1)).own hO6 (Nat.le_refl _) hE7
      rw [htk.out] at hO7
      clear k00 k01 k02 k10 k11 k12
      go_wp2_with fail
      go_roundw
      case rel => exact ⟨i + 1, oo2, co2, by go_num, by go_num, by omega, hO7, hE8⟩
      case measure => simp [intOf]; omega
    · have hil : i = l.length := by omega
      subst hil
      rw [List.take_of_length_le (by omega)] at hO
      have hc := hO.lenCap
      have hs := hO.sl QC.elem
      go_wp2_with fail
      go_ret
      exact ⟨hE, _, rfl, oo, co, by rw [hLl'.out]; rfl, hc, hs⟩
end Go.Proofs.YtnnpfhoigmegcaaGreat
namespace Go.Proofs.YtnnpfhoigmegcaaGreat
open Go.RowKit Go.Rep Go.Lim
set_option maxRecDepth 100000 in
theorem rqfraction (X : Nat -> Bool) (w : World) (a k : Int) (hX : HX X w) (h1 : -9223372036854775808 <= a) (h2 : a <= 9223372036854775807) (h3 : -9223372036854775808 <= k) (h4 : k <= 9223372036854775807) (hk : k ≠ 0) (ha : lg a.natAbs <= 274877906944) (hkl : lg k.natAbs <= 274877906944) : Calls Tryz.prog 68 #[.int .i64 a, .int .i64 k] w (ROut X w QC ((a : Rat) / (k : Rat))) := by
  obtain ⟨W, hW, hE, b0, hz⟩ := boxes1 w #[.bool false, .slice none 0 0, .slice none 0 0] 41
  have hXW : HX (hidB X w.heap.size 1) W := hX.boxes hz
  obtain ⟨b, hb⟩ : ∃ b, w.heap.size = b := ⟨_, rfl⟩
  have hbw : w.heap.size <= b := by omega
  rw [hb] at b0 hz hXW
  have hI := hid (And.intro (And.intro h1 h2) (And.intro (And.intro h3 h4) (And.intro hk (And.intro ha hkl))))
  clear h1 h2 h3 h4 hk ha hkl
  go_enter Tryz.func68, Tryz.ntmps68
  go_wp2_with fail
  refine (rifrom (hidB X b 1) W a hXW hI.out.1.1 hI.out.1.2).mono ?_
  rintro e1 w1 ⟨hE1, u1, rfl, hu1⟩
  have hX1 := hXW.ext hE1
  go_wp2_with fail
  refine (rifrom (hidB X b 1) w1 k hX1 hI.out.2.1.1 hI.out.2.1.2).mono ?_
  rintro e2 w2 ⟨hE2, u2, rfl, hu2⟩
  go_wp2_with fail
  refine (rqover (hidB X b 1) w2 _ _ a k (hX1.ext hE2) (mkx ZC.mono hu1 hE2) hu2 hI.out.2.2.2.1 hI.out.2.2.2.2 hI.out.2.2.1).mono ?_
  rintro e3 w3 ⟨hE3, u3, rfl, hu3⟩
  obtain ⟨s5, a5, n5, c5, d5, k5, e5, rfl⟩ := hu3.shape
  have bb := ((b0.ext0 hE1).ext0 hE2).ext0 hE3
  go_wp2_with ((with_reducible show wpList _ _ _ (⟨_, .store _ _ _, _, _, _, _⟩ :: _) _ _); refine st_storeBox stRat rfl rfl bb rfl rfl (one3 _ _ _ _ _ _ _) ?_; intro w7 r1 r2)
  have h7 := QC.mono _ _ _ _ le_unbox (QC.mono _ _ _ _ (le_store r2 (by omega) (by omega)) hu3)
  exact bodyPost_ret (results_box rfl rfl stRat r1 rfl) rfl ⟨ExtX.box (hE.trans (hE1.trans (hE2.trans hE3))) r2 (by omega), _, rfl, h7⟩
end Go.Proofs.YtnnpfhoigmegcaaGreat
namespace Go.Proofs.YtnnpfhoigmegcaaGreat
open Go.RowKit Go.Rep Go.Lim Go.Lin
end Go.Proofs.YtnnpfhoigmegcaaGreat
namespace Go.Proofs.YtnnpfhoigmegcaaGreat
open Go.RowKit Go.Rep Go.Lim Go.Lin
def TkOut (X : Nat -> Bool) (w : World) (l : List (List Rat)) (e : Ending) (w' : World) : Prop := Ext w w' /\ ∃ oo co, e = .returned (.slice oo l.length co) /\ OL RC 1 X w.heap.size 26 w' oo co l
set_option maxRecDepth 100000 in
theorem rmtakeO (X : Nat -> Bool) (w : World) (u : Value) (l : List (List Rat)) (hX : HX X w) (hu : MV (mk X w) u l) (hl : l.length <= 1000000) (hrl : ∀ r ∈ l, r.length <= 1000000) : Calls Tryz.prog 284 #[u] w (TkOut X w l) := by
  obtain ⟨ao, ca, rfl, hca, hsa⟩ := hu
  have hha := hsa.hd
  have hrl' := hid hrl
  clear hrl
  go_enter Tryz.func284, Tryz.ntmps284
  go_wp2_with fail
  go_loopw [3, 4] (fun o c wr => ∃ (i : Nat) (oo : Option Addr) (co : Nat), c = .int .i64 i /\ o = .slice oo i co /\ i <= l.length /\ OL RC 1 X w.heap.size 26 wr oo co (l.take i) /\ Ext w wr) (fun _ c _ => l.length - (intOf c).toNat)
  case atStart => exact ⟨0, none, 0, rfl, rfl, Nat.zero_le _, OL.nil _ _ _ _ _ _, ExtX.refl _⟩
  case round =>
    obtain ⟨i, oo, co, rfl, rfl, hi, hO, hE⟩ := hrel
    have hXr : HX X wr := hX.ext hE
    have hXu : HX (un X oo) wr := hO.unX hXr
    have hbase := hE.size
    by_cases hlt : i < l.length
    · have hsr : Sl RV 1 (mk (un X oo) wr) ao l := hsa.old RV.mono hE (fun j hj => hO.ob_lt hj)
      have htk := hid (take_snoc l i hlt)
      have hln := hid (len_take hi)
      obtain ⟨a1, c1, hX1, hc1, hcl1, hq1⟩ := hsr.row i hlt
      have k00 := hc1.out noY wr (ExtX.refl _) rfl
      have hlr := hid (hrl'.out l[i] (List.getElem_mem _))
      go_wp2_with (with_reducible refine up_ix1 slRats (by omega) (by assumption) ?_)
      refine (rqtakelist (un X oo) wr _ l[i] hXu ⟨a1, c1, rfl, hcl1, hq1⟩ hlr.out).mono ?_
      rintro e w6 ⟨hE6, u6, rfl, hu6⟩
      obtain ⟨a6, c6, rfl, hcl6, hs6⟩ := hu6
      have hO6 := hO.ext0 RC.elem hE6
      have hb6 := hE6.size
      clear k00
      go_wp2_with (at_builtin; refine st_append1n (l := l.take i) slRats rfl RC.elem (by omega) (hXr.ext hE6) i hln.out rfl rfl hO6 (.slice a6 l[i].length c6) l[i] rfl ⟨a6, c6, rfl, hcl6, hs6⟩ (by omega) (by omega) ?_; intro oo2 co2 w7 hO7 hE7 hor)
      have hE8 := (hE.trans hE6).own hO6 (Nat.le_refl _) hE7
      rw [htk.out] at hO7
      go_roundw
      case rel => exact ⟨i + 1, oo2, co2, by go_num, by go_num, by omega, hO7, hE8⟩
      case measure => simp [intOf]; omega
    · have hil : i = l.length := by omega
      subst hil
      rw [List.take_length] at hO
      go_wp2_with fail
      go_ret
      exact ⟨hE, oo, co, rfl, hO⟩
end Go.Proofs.YtnnpfhoigmegcaaGreat
namespace Go.Lin
def formedB {α : Type} (m : List (List α)) : Bool := decide (m.length <= 96) && m.all fun r => decide (1 <= r.length /\ r.length <= 96 /\ r.length = (m.getD 0 []).length)
def colsL {α : Type} (m : List (List α)) : Nat := (m.getD 0 []).length
theorem formedB_true {α : Type} {m : List (List α)} : formedB m = true ↔ m.length <= 96 /\ ∀ i (hi : i < m.length), 1 <= m[i].length /\ m[i].length <= 96 /\ m[i].length = colsL m := by
  unfold formedB colsL
  rw [Bool.and_eq_true, decide_eq_true_eq, List.all_eq_true]
  constructor
  · rintro ⟨h1, h2⟩
    exact ⟨h1, fun i hi => by simpa using h2 _ (List.getElem_mem hi)⟩
  · rintro ⟨h1, h2⟩
    refine ⟨h1, fun r hr => ?_⟩
    obtain ⟨i, hi, rfl⟩ := List.getElem_of_mem hr
    simpa using h2 i hi
theorem formedB_false {α : Type} {m : List (List α)} (i : Nat) (hi : i < m.length) (h : ¬ (1 <= m[i].length /\ m[i].length <= 96 /\ m[i].length = colsL m)) : false = formedB m := by
  symm
  cases hf : formedB m
  · rfl
  · exact absurd ((formedB_true.1 hf).2 i hi) h
theorem colsL_pos {α : Type} {m : List (List α)} (h : 0 < m.length) : colsL m = m[0].length := by simp [colsL, List.getD_eq_getElem?_getD, h]
theorem formedB_shp {m : List (List Rat)} (h : formedB m = true) : Shp m.length (colsL m) m /\ m.length <= 96 /\ colsL m <= 96 /\ (0 < m.length -> 1 <= colsL m) /\ (m.length = 0 -> colsL m = 0) := by
  have h1 := formedB_true.1 h
  refine ⟨⟨rfl, fun r hr => ?_⟩, h1.1, ?_, fun h0 => ?_, fun h0 => ?_⟩
  · obtain ⟨i, hi, rfl⟩ := List.getElem_of_mem hr
    exact (h1.2 i hi).2.2
  · by_cases h0 : 0 < m.length
    · have := h1.2 0 h0; omega
    · have : m = [] := List.eq_nil_of_length_eq_zero (by omega)
      subst this; simp [colsL]
  · have := h1.2 0 h0; omega
  · have : m = [] := List.eq_nil_of_length_eq_zero h0
    subst this; rfl
end Go.Lin
namespace Go.Proofs.YtnnpfhoigmegcaaGreat
open Go.RowKit Go.Rep Go.Lim Go.Lin
theorem columns_any {R : Mem -> Value -> Rat -> Prop} (X : Nat -> Bool) (w : World) (u : Value) (m : List (List Rat)) (hu : SlV (SlV R 3) 1 (mk X w) u m) : Calls Tryz.prog 281 #[u] w (fun e w' => w' = w /\ e = .returned (.int .i64 (colsL m : Int))) := by
  obtain ⟨ao, ca, rfl, hca, hsa⟩ := hu
  have hha := hsa.hd
  by_cases h : 0 < m.length
  · obtain ⟨a1, c1, hX1, hc1, hcl1, hq1⟩ := hsa.row 0 h
    have k00 := hc1.out noY w (ExtX.refl _) rfl
    have hc := hid (colsL_pos h)
    have hI : ((m.length : Int) == 0) = false := beqF (by omega)
    go_enter Tryz.func281, Tryz.ntmps281
    go_wp2_with (with_reducible refine up_ix1 slRats (by omega) (by assumption) ?_)
    go_ret
    exact ⟨rfl, ret_int (by rw [hc.out])⟩
  · have hc : Hid (colsL m = 0) := hid (by
      have : m = [] := List.eq_nil_of_length_eq_zero (by omega)
      subst this; rfl)
    have hI : ((m.length : Int) == 0) = true := beqT (by omega)
    go_enter Tryz.func281, Tryz.ntmps281
    go_wp2_with (with_reducible refine up_ix1 slRats (by omega) (by assumption) ?_)
    go_ret
    exact ⟨rfl, ret_int (by rw [hc.out]; rfl)⟩
set_option maxRecDepth 100000 in
theorem formed_any {R : Mem -> Value -> Rat -> Prop} (X : Nat -> Bool) (w : World) (u : Value) (m : List (List Rat)) (hu : SlV (SlV R 3) 1 (mk X w) u m) (hl : m.length <= 1099511627776) : Calls Tryz.prog 269 #[u] w (fun e w' => w' = w /\ e = .returned (.bool (formedB m))) := by
  obtain ⟨ao, ca, rfl, hca, hsa⟩ := hu
  have hha := hsa.hd
  by_cases h96 : 96 < m.length
  · have hv : Hid (false = formedB m) := hid (by
      symm
      cases hf : formedB m
      · rfl
      · have := (formedB_true.1 hf).1; omega)
    have hI : (96 : Int) < (m.length : Int) := by omega
    go_enter Tryz.func269, Tryz.ntmps269
    go_wp2_with fail
    go_ret
    exact ⟨rfl, ret_bool hv.out⟩
  · have hI : ¬ (96 : Int) < (m.length : Int) := by omega
    go_enter Tryz.func269, Tryz.ntmps269
    go_wp2_with fail
    go_loop [10] (fun c => ∃ (i : Nat), c = .int .i64 i /\ i <= m.length /\ Hid (∀ q, q < i -> ∀ hq : q < m.length, 1 <= m[q].length /\ m[q].length <= 96 /\ m[q].length = colsL m)) (fun c => m.length - (intOf c).toNat)
    case atStart => exact ⟨0, rfl, Nat.zero_le _, fun q hq => by omega⟩
    case round =>
      obtain ⟨i, rfl, hi, hok⟩ := hrel
      by_cases hlt : i < m.length
      · have h0 : 0 < m.length := by omega
        obtain ⟨a1, c1, hX1, hc1, hcl1, hq1⟩ := hsa.row i hlt
        obtain ⟨a2, c2, hX2, hc2, hcl2, hq2⟩ := hsa.row 0 h0
        have k00 := hc1.out noY w (ExtX.refl _) rfl
        have k10 := hc2.out noY w (ExtX.refl _) rfl
        have hcol := colsL_pos h0
        have hno := hid (formedB_false i hlt)
        rw [<- hcol] at k10
        obtain ⟨x, hx⟩ : ∃ x, m[i].length = x := ⟨_, rfl⟩
        obtain ⟨y, hy⟩ : ∃ y, colsL m = y := ⟨_, rfl⟩
        rw [hx] at k00 hno
        rw [hy] at k10 hno
        have hst : Hid (1 <= x /\ x <= 96 /\ x = y -> ∀ hq : i < m.length, 1 <= m[i].length /\ m[i].length <= 96 /\ m[i].length = colsL m) := hid fun h hq => by rw [hx, hy]; exact h
        clear hx hy hcol hc1 hc2 hq1 hq2 hcl1 hcl2
        by_cases hx0 : x = 0
        · have d0 : ((x : Int) == 0) = true := beqT (by omega)
          have hv := hid (hno.out (by omega))
          clear hx0
          go_wp2_with (with_reducible refine up_ix1 slRats (by omega) (by assumption) ?_)
          go_ret
          exact ⟨rfl, ret_bool hv.out⟩
        · have d0 : ((x : Int) == 0) = false := beqF (by omega)
          by_cases hx1 : 96 < x
          · have d1 : (96 : Int) < (x : Int) := by omega
            have hv := hid (hno.out (by omega))
            clear hx0
            go_wp2_with (with_reducible refine up_ix1 slRats (by omega) (by assumption) ?_)
            go_ret
            exact ⟨rfl, ret_bool hv.out⟩
          · have d1 : ¬ (96 : Int) < (x : Int) := by omega
            by_cases hxy : x = y
            · have d2 : ((x : Int) != (y : Int)) = false := bneF (by omega)
              have hst2 := hid (hst.out ⟨by omega, by omega, hxy⟩)
              clear hx0 hxy
              go_wp2_with (with_reducible refine up_ix1 slRats (by omega) (by assumption) ?_)
              go_round
              case rel => exact ⟨i + 1, by go_num, by omega, upto_succ hok.out hst2.out⟩
              case measure => simp [intOf]; omega
            · have d2 : ((x : Int) != (y : Int)) = true := bneT (by omega)
              have hv := hid (hno.out (by omega))
              clear hx0 hxy
              go_wp2_with (with_reducible refine up_ix1 slRats (by omega) (by assumption) ?_)
              go_ret
              exact ⟨rfl, ret_bool hv.out⟩
      · have hv : Hid (true = formedB m) := hid (by
          symm
          exact formedB_true.2 ⟨by omega, fun q hq => hok.out q (by omega) hq⟩)
        go_wp2_with fail
        go_ret
        exact ⟨rfl, ret_bool hv.out⟩
end Go.Proofs.YtnnpfhoigmegcaaGreat
namespace Go.Rep
open Go.RowKit Go.Lim
abbrev Hdr := Option Addr × Nat × Nat
def HdR : Mem -> Value -> Hdr -> Prop := fun _ u x => u = .slice x.1 x.2.1 x.2.2
theorem HdR.elem : Elem HdR 1 := ⟨fun _ _ _ _ _ h => h, by rintro h u x rfl; rfl, by
  rintro h u x rfl c hc; simp [cellsL, Value.cells] at hc; subst hc; rfl, Nat.one_pos⟩
theorem HdR.one : OneCell HdR := by rintro h u x rfl; rfl
theorem HdR.pure : ∀ h h' u x, HdR h u x -> HdR h' u x := fun _ _ _ _ h => h
theorem OL.frame {α : Type} {R : Mem -> Value -> α -> Prop} {sz : Nat} {X : Nat -> Bool} {base : Nat} {e : TypeId} {w w' : World} {ao : Option Addr} {cap : Nat} {l : List α} (hR0 : ∀ h h' u x, R h u x -> R h' u x) {Y Z : Nat -> Bool} (h : OL R sz X base e w ao cap l) (hE : ExtX Y w w') (hY : ∀ k, ob ao k = true -> Y k = false) (hZ : ∀ k, ob ao k = true -> Z k = false) : OL R sz Z base e w' ao cap l := by
  have hb := fun k (hk : ob ao k = true) => h.block hk
  obtain ⟨hx, us, h1, h2, h22, h3, h5⟩ := h
  refine ⟨hZ, us, h1, h2, h22, ?_, fun i hi hi' => hR0 _ _ _ _ (h5 i hi hi')⟩
  refine ⟨h3.1, ?_⟩
  rcases h3.2 with h4 | ⟨g, c, cur, hv, h6, h7, h8⟩
  · exact .inl h4
  · refine .inr ⟨g, c, cur, hv, h6, ?_, h8⟩
    simp at hv
    obtain ⟨rfl, rfl⟩ := hv
    have hk : ob (some ⟨g, 0, none⟩) g = true := by simp [ob]
    rw [hE.block g (hb g hk).2 (hY g hk), h7]
def cut (Z : Nat -> Bool) (ao : Option Addr) : Nat -> Bool := fun k => Z k && !ob ao k
theorem un_cut {Z : Nat -> Bool} {ao : Option Addr} (h : ∀ k, ob ao k = true -> Z k = true) : un (cut Z ao) ao = Z := by
  funext k
  have := h k
  unfold un cut
  cases hb : ob ao k <;> cases hz : Z k <;> simp_all
theorem cut_of {Z : Nat -> Bool} {ao : Option Addr} {k : Nat} (h : cut Z ao k = true) : Z k = true /\ ob ao k = false := by simpa [cut] using h
theorem cut_mk {Z : Nat -> Bool} {ao : Option Addr} {k : Nat} (h : Z k = true) (h2 : ob ao k = false) : cut Z ao k = true := by simp [cut, h, h2]
def obs (hs : List Hdr) : Nat -> Bool := fun k => hs.any fun h => ob h.1 k
theorem obs_get {hs : List Hdr} {i : Nat} (hi : i < hs.length) {k : Nat} (h : ob hs[i].1 k = true) : obs hs k = true := by
  unfold obs; rw [List.any_eq_true]; exact ⟨_, List.getElem_mem hi, h⟩
theorem obs_of {hs : List Hdr} {k : Nat} (h : obs hs k = true) : ∃ i, ∃ hi : i < hs.length, ob hs[i].1 k = true := by
  unfold obs at h; rw [List.any_eq_true] at h
  obtain ⟨x, hx, h2⟩ := h
  obtain ⟨i, hi, rfl⟩ := List.getElem_of_mem hx
  exact ⟨i, hi, h2⟩
def mz (X : Nat -> Bool) (ao : Option Addr) (hs : List Hdr) : Nat -> Bool := fun k => X k || ob ao k || obs hs k
def mb (ao : Option Addr) (hs : List Hdr) : Nat -> Bool := fun k => ob ao k || obs hs k
theorem mz_iff {X : Nat -> Bool} {ao : Option Addr} {hs : List Hdr} {k : Nat} : mz X ao hs k = true ↔ X k = true \/ ob ao k = true \/ obs hs k = true := by simp [mz, or_assoc]
theorem mb_iff {ao : Option Addr} {hs : List Hdr} {k : Nat} : mb ao hs k = true ↔ ob ao k = true \/ obs hs k = true := by simp [mb]
structure MO (X : Nat -> Bool) (base : Nat) (e1 e2 : TypeId) (w : World) (ao : Option Addr) (cap : Nat) (hs : List Hdr) (m : List (List Rat)) : Prop where
  outer : OL HdR 1 X base e1 w ao cap hs
  len : hs.length = m.length
  rlen : ∀ i (hi : i < hs.length) (hi' : i < m.length), hs[i].2.1 = m[i].length
  row : ∀ i (hi : i < hs.length) (hi' : i < m.length), OL QC 3 (cut (mz X ao hs) hs[i].1) base e2 w hs[i].1 hs[i].2.2 m[i]
  sep : ∀ i (hi : i < hs.length) k, ob hs[i].1 k = true -> X k = false /\ ob ao k = false
  dis : ∀ i j (hi : i < hs.length) (hj : j < hs.length), i ≠ j -> ∀ k, ob hs[i].1 k = true -> ob hs[j].1 k = false
section
variable {X : Nat -> Bool} {base : Nat} {e1 e2 : TypeId} {w w' : World} {ao : Option Addr} {cap : Nat} {hs : List Hdr} {m : List (List Rat)}
theorem MO.out_sep (h : MO X base e1 e2 w ao cap hs m) {k : Nat} (hk : ob ao k = true) : X k = false /\ obs hs k = false := by
  refine ⟨h.outer.1 k hk, ?_⟩
  cases ho : obs hs k
  · rfl
  · obtain ⟨i, hi, h2⟩ := obs_of ho
    have := (h.sep i hi k h2).2
    rw [hk] at this; simp at this
theorem MO.obs_sep (h : MO X base e1 e2 w ao cap hs m) {k : Nat} (hk : obs hs k = true) : X k = false /\ ob ao k = false := by
  obtain ⟨i, hi, h2⟩ := obs_of hk
  exact h.sep i hi k h2
theorem MO.mb_X (h : MO X base e1 e2 w ao cap hs m) {k : Nat} (hk : mb ao hs k = true) : X k = false := by
  rcases mb_iff.1 hk with a | a
  · exact (h.out_sep a).1
  · exact (h.obs_sep a).1
theorem MO.mb_block (h : MO X base e1 e2 w ao cap hs m) {k : Nat} (hk : mb ao hs k = true) : base <= k /\ k < w.heap.size := by
  rcases mb_iff.1 hk with a | a
  · exact h.outer.block a
  · obtain ⟨i, hi, h2⟩ := obs_of a
    exact (h.row i hi (by have := h.len; omega)).block h2
theorem MO.mz_sub (_h : MO X base e1 e2 w ao cap hs m) {i : Nat} (hi : i < hs.length) (k : Nat) (hk : ob hs[i].1 k = true) : mz X ao hs k = true := mz_iff.2 (.inr (.inr (obs_get hi hk)))
theorem MO.hz (h : MO X base e1 e2 w ao cap hs m) (hX : HX X w) : HX (mz X ao hs) w := fun k hk => by
  rcases mz_iff.1 hk with a | a
  · exact hX k a
  · exact (h.mb_block (mb_iff.2 a)).2
theorem MO.ext (h : MO X base e1 e2 w ao cap hs m) {Y X' : Nat -> Bool} (hE : ExtX Y w w') (hY : ∀ k, k < w.heap.size -> Y k = true -> X k = true) (hZ : ∀ k, k < w.heap.size -> X' k = true -> X k = true) : MO X' base e1 e2 w' ao cap hs m := by
  have hX' : ∀ k, mb ao hs k = true -> X' k = false := fun k hk => by
    cases hh : X' k
    · rfl
    · have := hZ k (h.mb_block hk).2 hh; rw [h.mb_X hk] at this; simp at this
  have hYm : ∀ k, mb ao hs k = true -> Y k = false := fun k hk => by
    cases hh : Y k
    · rfl
    · have := hY k (h.mb_block hk).2 hh; rw [h.mb_X hk] at this; simp at this
  refine ⟨h.outer.ext HdR.elem hE hY hZ, h.len, h.rlen, fun i hi hi' => ?_, fun i hi k hk => ⟨hX' k (mb_iff.2 (.inr (obs_get hi hk))), (h.sep i hi k hk).2⟩, h.dis⟩
  refine (h.row i hi hi').ext QC.elem hE (fun k hk hy => cut_mk (mz_iff.2 (.inl (hY k hk hy))) ?_) (fun k hk hy => ?_)
  · cases hb : ob hs[i].1 k
    · rfl
    · have := hYm k (mb_iff.2 (.inr (obs_get hi hb))); rw [hy] at this; simp at this
  · obtain ⟨h1, h2⟩ := cut_of hy
    refine cut_mk (mz_iff.2 ?_) h2
    rcases mz_iff.1 h1 with a | a
    · exact .inl (hZ k hk a)
    · exact .inr a
theorem MO.ext0 (h : MO X base e1 e2 w ao cap hs m) (hE : Ext w w') : MO X base e1 e2 w' ao cap hs m :=
  h.ext hE (fun k _ hk => by simp [noY] at hk) (fun _ _ h => h)
theorem MO.upd (h : MO X base e1 e2 w ao cap hs m) {i : Nat} (hi : i < hs.length) {l : List Rat} (hE : ExtX (ob hs[i].1) w w') (hl : ∀ hi' : i < m.length, l.length = m[i].length) (hr : OL QC 3 (cut (mz X ao hs) hs[i].1) base e2 w' hs[i].1 hs[i].2.2 l) : MO X base e1 e2 w' ao cap hs (m.set i l) := by
  refine ⟨h.outer.frame HdR.pure hE (fun k hk => ?_) h.outer.1, by rw [List.length_set]; exact h.len, fun j hj hj' => ?_, fun j hj hj' => ?_, h.sep, h.dis⟩
  · cases hb : ob hs[i].1 k
    · rfl
    · have := (h.sep i hi k hb).2; rw [hk] at this; simp at this
  · rw [List.getElem_set]
    split
    · subst_vars; rw [hl (by have := h.len; omega)]; exact h.rlen _ hj (by have := h.len; omega)
    · exact h.rlen j hj (by simpa using hj')
  · rw [List.getElem_set]
    split
    · subst_vars; exact hr
    · rename_i e
      exact (h.row j hj (by simpa using hj')).ext QC.elem hE (fun k _ hk => cut_mk (h.mz_sub hi k hk) (h.dis i j hi hj e k hk)) (fun _ _ hk => hk)
theorem MO.perm (h : MO X base e1 e2 w ao cap hs m) {hs' : List Hdr} {m' : List (List Rat)} (f : Nat -> Nat) (hf : ∀ i, i < hs.length -> f i < hs.length) (hinj : ∀ i j, i < hs.length -> j < hs.length -> f i = f j -> i = j) (hsurj : ∀ i, i < hs.length -> ∃ j, j < hs.length /\ f j = i)
    (hl : hs'.length = hs.length) (hlm : m'.length = m.length) (hh : ∀ i (hi : i < hs'.length) (hi' : f i < hs.length), hs'[i] = hs[f i]) (hm : ∀ i (hi : i < m'.length) (hi' : f i < m.length), m'[i] = m[f i])
    (hE : ExtX (ob ao) w w') (ho : OL HdR 1 X base e1 w' ao cap hs') : MO X base e1 e2 w' ao cap hs' m' := by
  have hlen := h.len
  have hobs : ∀ k, obs hs' k = true ↔ obs hs k = true := fun k => by
    constructor
    · intro hk
      obtain ⟨i, hi, h2⟩ := obs_of hk
      have hfi := hf i (by omega)
      rw [hh i hi hfi] at h2
      exact obs_get hfi h2
    · intro hk
      obtain ⟨i, hi, h2⟩ := obs_of hk
      obtain ⟨j, hj, rfl⟩ := hsurj i hi
      refine obs_get (i := j) (by omega) ?_
      rw [hh j (by omega) hi]; exact h2
  have hz : mz X ao hs' = mz X ao hs := by
    funext k
    rw [Bool.eq_iff_iff, mz_iff, mz_iff, hobs]
  refine ⟨ho, by omega, fun i hi hi' => ?_, fun i hi hi' => ?_, fun i hi k hk => ?_, fun i j hi hj hij k hk => ?_⟩
  · have hfi := hf i (by omega)
    rw [hh i hi hfi, hm i hi' (by omega)]; exact h.rlen _ hfi (by omega)
  · have hfi := hf i (by omega)
    rw [hz, hh i hi hfi, hm i hi' (by omega)]
    exact (h.row _ hfi (by omega)).ext QC.elem hE (fun k _ hk => cut_mk (mz_iff.2 (.inr (.inl hk))) (by
      cases hb : ob hs[f i].1 k
      · rfl
      · have := (h.sep _ hfi k hb).2; rw [hk] at this; simp at this)) (fun _ _ hk => hk)
  · have hfi := hf i (by omega)
    rw [hh i hi hfi] at hk; exact h.sep _ hfi k hk
  · have hfi := hf i (by omega)
    have hfj := hf j (by omega)
    rw [hh i hi hfi] at hk
    rw [hh j hj hfj]
    exact h.dis _ _ hfi hfj (fun e => hij (hinj i j (by omega) (by omega) e)) k hk
theorem MO.put (h : MO X base e1 e2 w ao cap hs m) {i : Nat} (hi : i < hs.length) (hn : hs[i].1 = none) {a : Option Addr} {c : Nat} {l : List Rat} {w1 : World} 
    (hE1 : Ext w w1) (hnew : ∀ k, ob a k = true -> w.heap.size <= k) (hr : OL QC 3 (mz X ao hs) base e2 w1 a c l) (hX : HX X w)
    (hE : ExtX (ob ao) w1 w') (ho : OL HdR 1 X base e1 w' ao cap (hs.set i (a, l.length, c))) : MO X base e1 e2 w' ao cap (hs.set i (a, l.length, c)) (m.set i l) := by
  have hlen := h.len
  have hE' : ExtX (ob ao) w w' := (ExtX.of hE1).trans hE
  have hobs : ∀ k, obs (hs.set i (a, l.length, c)) k = true ↔ obs hs k = true \/ ob a k = true := fun k => by
    constructor
    · intro hk
      obtain ⟨j, hj, h2⟩ := obs_of hk
      rw [List.getElem_set] at h2
      split at h2
      · exact .inr h2
      · exact .inl (obs_get (by simpa using hj) h2)
    · rintro (hk | hk)
      · obtain ⟨j, hj, h2⟩ := obs_of hk
        refine obs_get (i := j) (by simpa using hj) ?_
        rw [List.getElem_set]
        split
        · subst_vars; rw [hn] at h2; simp [ob] at h2
        · exact h2
      · refine obs_get (i := i) (by simpa using hi) ?_
        rw [List.getElem_set]; simpa using hk
  have hmz : ∀ k, mz X ao (hs.set i (a, l.length, c)) k = true ↔ mz X ao hs k = true \/ ob a k = true := fun k => by
    rw [mz_iff, mz_iff, hobs]
    constructor
    · rintro (h | h | h | h)
      · exact .inl (.inl h)
      · exact .inl (.inr (.inl h))
      · exact .inl (.inr (.inr h))
      · exact .inr h
    · rintro ((h | h | h) | h)
      · exact .inl h
      · exact .inr (.inl h)
      · exact .inr (.inr (.inl h))
      · exact .inr (.inr (.inr h))
  have hold : ∀ k, mb ao hs k = true -> ob a k = false := fun k hk => by
    cases hb : ob a k
    · rfl
    · have := hnew k hb; have := (h.mb_block hk).2; omega
  have hobao : ∀ k, ob a k = true -> ob ao k = false := fun k hk => by
    cases hb : ob ao k
    · rfl
    · have := hold k (mb_iff.2 (.inl hb)); rw [hk] at this; simp at this
  refine ⟨ho, by simp [hlen], fun j hj hj' => ?_, fun j hj hj' => ?_, fun j hj k hk => ?_, fun j q hj hq hjq k hk => ?_⟩
  · rw [List.getElem_set, List.getElem_set]
    split
    · rfl
    · exact h.rlen j (by simpa using hj) (by simpa using hj')
  · have hj0 : j < hs.length := by simpa using hj
    have hj1 : j < m.length := by simpa using hj'
    by_cases e : i = j
    · subst e
      simp only [List.getElem_set_self]
      refine hr.ext QC.elem hE (fun k _ hk => mz_iff.2 (.inr (.inl hk))) (fun k hk hz => ?_)
      obtain ⟨h1, h2⟩ := cut_of hz
      rcases (hmz k).1 h1 with h3 | h3
      · exact h3
      · rw [h2] at h3; simp at h3
    · simp only [List.getElem_set_ne e]
      refine (h.row j hj0 hj1).ext QC.elem hE' (fun k _ hk => cut_mk (mz_iff.2 (.inr (.inl hk))) ?_) (fun k hk hz => ?_)
      · cases hb : ob hs[j].1 k
        · rfl
        · have := (h.sep j hj0 k hb).2; rw [hk] at this; simp at this
      · obtain ⟨h1, h2⟩ := cut_of hz
        rcases (hmz k).1 h1 with h3 | h3
        · exact cut_mk h3 h2
        · have := hnew k h3; omega
  · rw [List.getElem_set] at hk
    split at hk
    · exact ⟨by
        cases hb : X k
        · rfl
        · have := hX k hb; have := hnew k hk; omega, hobao k hk⟩
    · exact h.sep j (by simpa using hj) k hk
  · have hj0 : j < hs.length := by simpa using hj
    have hq0 : q < hs.length := by simpa using hq
    rw [List.getElem_set] at hk |-
    split at hk
    · rw [if_neg (by omega)]
      cases hb : ob hs[q].1 k
      · rfl
      · have := hold k (mb_iff.2 (.inr (obs_get hq0 hb))); dsimp only at hk; rw [hk] at this; simp at this
    · split
      · exact hold k (mb_iff.2 (.inr (obs_get hj0 hk)))
      · exact h.dis j q hj0 hq0 hjq k hk
theorem MO.hdr (h : MO X base e1 e2 w ao cap hs m) (i : Nat) (hi : i < hs.length) : w.cell? (adr ao i) = some (.slice hs[i].1 hs[i].2.1 hs[i].2.2) /\ w.frozen? (adr ao i) = false := by
  obtain ⟨u, h1, h2, rfl⟩ := h.outer.cell HdR.one i hi
  exact ⟨h1, h2⟩
theorem MO.rowS (h : MO X base e1 e2 w ao cap hs m) {i : Nat} (hi : i < hs.length) (hi' : i < m.length) : Sl QC 3 (_root_.Go.Rep.mk (cut (mz X ao hs) hs[i].1) w) hs[i].1 m[i] := (h.row i hi hi').sl QC.elem
theorem MO.rowX (h : MO X base e1 e2 w ao cap hs m) {i : Nat} (hi : i < hs.length) (hi' : i < m.length) : Sl QC 3 (_root_.Go.Rep.mk X w) hs[i].1 m[i] := (h.rowS hi hi').mono QC.mono (mk_sub fun k _ hk => cut_mk (mz_iff.2 (.inl hk)) (by
  cases hb : ob hs[i].1 k
  · rfl
  · have := (h.sep i hi k hb).1; rw [hk] at this; simp at this))
theorem MO.capLen (h : MO X base e1 e2 w ao cap hs m) : m.length <= cap := by rw [<- h.len]; exact h.outer.lenCap
theorem MO.mc (h : MO X base e1 e2 w ao cap hs m) : MC (_root_.Go.Rep.mk X w) (.slice ao m.length cap) m := by
  have hl := h.len
  refine ⟨ao, cap, rfl, h.capLen, fun hp => ?_, fun i hi => ?_⟩
  · have := h.outer.hd; rw [hl] at this; exact this hp
  · obtain ⟨h1, _⟩ := h.hdr i (by omega)
    have hr := h.rowX (i := i) (by omega) hi
    refine ⟨.slice hs[i].1 hs[i].2.1 hs[i].2.2, rfl, fun j hj => ?_, ?_⟩
    · have hj0 : j = 0 := by simp [Value.cells] at hj; omega
      subst hj0
      unfold _root_.Go.Rep.mk
      have hX : X (adr ao (i * 1 + 0)).block = false := by
        obtain ⟨b, off, rfl⟩ := h.outer.hd (by omega)
        exact h.outer.1 _ (by simp [ob, adr])
      rw [hX]
      simpa [Value.cells] using h1
    · rw [h.rlen i (by omega) hi]
      exact ⟨_, _, rfl, by have := (h.row i (by omega) hi).lenCap; exact this, hr⟩
theorem MO.start {n : Nat} (ho : OL HdR 1 X base e1 w ao cap (List.replicate n (none, 0, 0))) (e2 : TypeId) : MO X base e1 e2 w ao cap (List.replicate n (none, 0, 0)) (List.replicate n []) := by
  refine ⟨ho, by simp, fun i hi hi' => by simp, fun i hi hi' => ?_, fun i hi k hk => ?_, fun i j hi hj hij k hk => ?_⟩
  · simp only [List.getElem_replicate]; exact OL.nil _ _ _ _ _ _
  · simp [ob] at hk
  · simp [ob] at hk
end
end Go.Rep
namespace Go.Rep
open Go.RowKit Go.Lim
section
variable {P : Program} {α : Type} {R : Mem -> Value -> α -> Prop} {X : Nat -> Bool} {base : Nat} {e : TypeId} {w : World} {ao : Option Addr} {cap : Nat} {l : List α}
theorem OL.cell3 (h : OL R 3 X base e w ao cap l) (i : Nat) (hi : i < l.length) {g o : Nat} (hg : adr ao (i * 3) = ⟨g, o, none⟩) :
    ∃ u v0 v1 v2, cellsL u = [v0, v1, v2] /\ (w.cell? ⟨g, o, none⟩ = some v0 /\ w.frozen? ⟨g, o, none⟩ = false) /\ (w.cell? ⟨g, o + 1, none⟩ = some v1 /\ w.frozen? ⟨g, o + 1, none⟩ = false) /\ (w.cell? ⟨g, o + 2, none⟩ = some v2 /\ w.frozen? ⟨g, o + 2, none⟩ = false) /\ R (mk (un X ao) w) u l[i] := by
  obtain ⟨us, h1, h2, _, h3, h5⟩ := h.cells
  have hi' : i < us.length := by omega
  have hsz : us[i].cells.size = 3 := h2 _ (List.getElem_mem _)
  have hlen : (cellsL us[i]).length = 3 := by simp [cellsL, hsz]
  obtain ⟨v0, v1, v2, hv⟩ : ∃ v0 v1 v2, cellsL us[i] = [v0, v1, v2] := by
    match hc : cellsL us[i], hlen with
    | [a, b, c], _ => exact ⟨a, b, c, rfl⟩
  have ha : ∀ j, adr ao (i * 3 + j) = ⟨g, o + j, none⟩ := fun j => by rw [<- adr_add, hg, Addr.add_lit]
  have key : ∀ j v, j < 3 -> (cellsL us[i])[j]? = some v -> w.cell? ⟨g, o + j, none⟩ = some v /\ w.frozen? ⟨g, o + j, none⟩ = false := fun j v hj hjv => by
    have hget := flat_get us i j hi' h2 hj
    rw [hjv] at hget
    have := h3 _ _ hget
    rwa [ha] at this
  exact ⟨us[i], v0, v1, v2, hv, key 0 v0 (by omega) (by rw [hv]; rfl), key 1 v1 (by omega) (by rw [hv]; rfl), key 2 v2 (by omega) (by rw [hv]; rfl), h5 i hi' hi⟩
theorem run_store1 {P : Program} {w : World} {a : Addr} {u v : Value} (h1 : v.oneCell' = true) (hc : w.cell? a = some u) (hf : w.frozen? a = false) : (store a v).run P w = .ok () (w.setCell a v) := by
  rw [run_store P w a v _ h1, hc]; simp [hf]
theorem OL.set3 {t : TypeId} (hT : TyI P t 3) (hR : Elem R 3) (h : OL R 3 X base e w ao cap l) (i : Nat) (hi : i < l.length) {g o : Nat} (hg : adr ao (i * 3) = ⟨g, o, none⟩) {v0 v1 v2 : Value} {x : α} (hu : R (mk (un X ao) w) (.agg #[v0, v1, v2]) x) :
    OL R 3 X base e (((w.setCell ⟨g, o, none⟩ v0).setCell ⟨g, o + 1, none⟩ v1).setCell ⟨g, o + 2, none⟩ v2) ao cap (l.set i x) /\ ExtX (ob ao) w (((w.setCell ⟨g, o, none⟩ v0).setCell ⟨g, o + 1, none⟩ v1).setCell ⟨g, o + 2, none⟩ v2) := by
  obtain ⟨ti, ht, hts⟩ := hT
  obtain ⟨_, c0, c1, c2, _, ⟨h0, f0⟩, ⟨h1, f1⟩, ⟨h2, f2⟩, _⟩ := h.cell3 i hi hg
  obtain ⟨w', hr, h3, h4⟩ := h.run_store (P := P) ht hts hR i hi _ x hu
  have hone := hR.one _ _ _ hu
  rw [hg] at hr
  have o0 : v0.oneCell' = true := hone v0 (by simp [cellsL, Value.cells])
  have o1 : v1.oneCell' = true := hone v1 (by simp [cellsL, Value.cells])
  have o2 : v2.oneCell' = true := hone v2 (by simp [cellsL, Value.cells])
  have a1 : (w.setCell ⟨g, o, none⟩ v0).cell? ⟨g, o + 1, none⟩ = some c1 := by rw [World.cell?_setCell_other (h := by simp)]; exact h1
  have a2 : ((w.setCell ⟨g, o, none⟩ v0).setCell ⟨g, o + 1, none⟩ v1).cell? ⟨g, o + 2, none⟩ = some c2 := by rw [World.cell?_setCell_other (h := by simp), World.cell?_setCell_other (h := by simp)]; exact h2
  have b1 : (w.setCell ⟨g, o, none⟩ v0).frozen? ⟨g, o + 1, none⟩ = false := by rw [World.frozen?_setCell]; exact f1
  have b2 : ((w.setCell ⟨g, o, none⟩ v0).setCell ⟨g, o + 1, none⟩ v1).frozen? ⟨g, o + 2, none⟩ = false := by rw [World.frozen?_setCell, World.frozen?_setCell]; exact f2
  have hw : w' = ((w.setCell ⟨g, o, none⟩ v0).setCell ⟨g, o + 1, none⟩ v1).setCell ⟨g, o + 2, none⟩ v2 := by
    have s0 := run_store1 (P := P) o0 h0 f0
    have s1 := run_store1 (P := P) o1 a1 b1
    have s2 := run_store1 (P := P) o2 a2 b2
    simp [storeVar, sizeOf, typeInfo, ht, hts, Value.cells, storeCells, Addr.add_lit, s0, s1, s2] at hr
    exact hr.symm
  subst hw
  exact ⟨h3, h4⟩
end
section
variable {X : Nat -> Bool} {base : Nat} {e1 e2 : TypeId} {w w' : World} {ao : Option Addr} {cap : Nat} {hs : List Hdr} {m : List (List Rat)}
theorem MO.old {α : Type} {R : Mem -> Value -> α -> Prop} (hR : Mono R) {u : Value} {x : α} {X0 : Nat -> Bool} {w0 : World} (h : MO X base e1 e2 w ao cap hs m) (hu : R (_root_.Go.Rep.mk X0 w0) u x) (hE : Ext w0 w) (hb : w0.heap.size <= base) (hX : ∀ k, k < w0.heap.size -> X k = true -> X0 k = true) : R (_root_.Go.Rep.mk (mz X ao hs) w) u x :=
  hR _ _ _ _ (mk_over hE (fun k _ hk => by simp [noY] at hk) fun k hk hz => by
    rcases mz_iff.1 hz with a | a
    · exact hX k hk a
    · have := (h.mb_block (mb_iff.2 a)).1; omega) hu
theorem MO.less {α : Type} {R : Mem -> Value -> α -> Prop} (hR : Mono R) {u : Value} {x : α} (_h : MO X base e1 e2 w ao cap hs m) (hu : R (_root_.Go.Rep.mk (mz X ao hs) w) u x) : R (_root_.Go.Rep.mk X w) u x :=
  hR _ _ _ _ (mk_sub fun _ _ hk => mz_iff.2 (.inl hk)) hu
theorem MO.ext_from {w0 : World} (h : MO X base e1 e2 w ao cap hs m) (hE : Ext w0 w) (hb : w0.heap.size <= base) (hE2 : ExtX (mb ao hs) w w') : Ext w0 w' :=
  hE.then_ hE2 fun i hi _ => by
    cases hk : mb ao hs i
    · rfl
    · have := (h.mb_block hk).1; omega
theorem ob_mb {ao : Option Addr} {hs : List Hdr} {k : Nat} (h : mb ao hs k = false) : ob ao k = false /\ ∀ i (hi : i < hs.length), ob hs[i].1 k = false := by
  refine ⟨?_, fun i hi => ?_⟩
  · cases hb : ob ao k
    · rfl
    · rw [mb_iff.2 (.inl hb)] at h; simp at h
  · cases hb : ob hs[i].1 k
    · rfl
    · rw [mb_iff.2 (.inr (obs_get hi hb))] at h; simp at h
theorem ExtX.row {i : Nat} (hi : i < hs.length) (h : ExtX (ob hs[i].1) w w') : ExtX (mb ao hs) w w' := h.weaken fun _ _ hk => (ob_mb hk).2 i hi
theorem ExtX.outer (h : ExtX (ob ao) w w') : ExtX (mb ao hs) w w' := h.weaken fun _ _ hk => (ob_mb hk).1
theorem obs_congr {hs hs' : List Hdr} (h : ∀ k, obs hs k = obs hs' k) : mb ao hs = mb ao hs' /\ mz X ao hs = mz X ao hs' := by
  constructor <;> (funext k; simp [mb, mz, h])
def MOut (X : Nat -> Bool) (e1 e2 : TypeId) (w : World) (m : List (List Rat)) (e : Ending) (w' : World) : Prop := Ext w w' /\ ∃ ao cap hs, e = .returned (.slice ao m.length cap) /\ MO X w.heap.size e1 e2 w' ao cap hs m
end
end Go.Rep
namespace Go.Proofs.YtnnpfhoigmegcaaGreat
open Go.RowKit Go.Rep Go.Lim Go.Lin
theorem part_set {α : Type} (r i : Nat) (z : α) (x : α) (hi : i < r) : ((List.range r).map fun q => if q < i then z else x).set i z = (List.range r).map fun q => if q < i + 1 then z else x := by
  refine List.ext_getElem (by simp) fun q h1 h2 => ?_
  simp at h1
  rw [List.getElem_set]
  simp only [List.getElem_map, List.getElem_range]
  split
  · subst_vars; simp
  · by_cases a : q < i
    · simp [a, show q < i + 1 by omega]
    · simp [a, show ¬ q < i + 1 by omega]
theorem part_zero {α : Type} (r : Nat) (z x : α) : ((List.range r).map fun q => if q < 0 then z else x) = List.replicate r x := by
  refine List.ext_getElem (by simp) fun q h1 h2 => by simp
theorem part_full {α : Type} (r : Nat) (z x : α) : ((List.range r).map fun q => if q < r then z else x) = List.replicate r z := by
  refine List.ext_getElem (by simp) fun q h1 h2 => ?_
  simp at h1
  simp [h1]
set_option maxRecDepth 100000 in
theorem zero_any (X : Nat -> Bool) (w : World) (r c : Nat) (hX : HX X w) (hr : r <= 1000) (hc : c <= 1000) : Calls Tryz.prog 302 #[.int .i64 (r : Int), .int .i64 (c : Int)] w (MOut X 26 41 w (List.replicate r (List.replicate c 0))) := by
  go_enter Tryz.func302, Tryz.ntmps302
  go_wp2_with ((with_reducible show wpList _ _ _ (⟨_, .makeSlice _ _ _, _, _, _, _⟩ :: _) _ _); refine st_make (R := HdR) slRats HdR.elem (none, 0, 0) (fun _ => rfl) X hX w.heap.size (Nat.le_refl _) r rfl rfl rfl (by omega) (by omega) ?_; intro ao w1 hO1 hE1)
  have hM1 := MO.start hO1 41
  have hh := hO1.hd
  simp only [List.length_replicate] at hh
  have h0 : List.replicate r ([] : List Rat) = (List.range r).map fun q => if q < 0 then List.replicate c 0 else [] := (part_zero r _ _).symm
  rw [h0] at hM1
  clear hO1 h0
  go_loopw [11] (fun k wr => ∃ (i : Nat) (hs : List Hdr), k = .int .i64 i /\ i <= r /\ Hid (∀ q (hq : q < hs.length), i <= q -> hs[q].1 = none) /\ MO X w.heap.size 26 41 wr ao r hs ((List.range r).map fun q => if q < i then List.replicate c 0 else []) /\ Ext w wr) (fun k _ => r - (intOf k).toNat)
  case atStart => exact ⟨0, _, rfl, Nat.zero_le _, hid (fun q hq _ => by simp), hM1, hE1⟩
  case round =>
    obtain ⟨i, hs, rfl, hi, hnil, hM, hE⟩ := hrel
    have hXr : HX X wr := hX.ext hE
    have hXz := hM.hz hXr
    have hlen := hid hM.len
    have hml : Hid (((List.range r).map fun q => if q < i then List.replicate c (0 : Rat) else []).length = r) := hid (by simp)
    by_cases hlt : i < r
    · have hih : i < hs.length := by rw [hlen.out, hml.out]; exact hlt
      have hps := hid (part_set r i (List.replicate c (0 : Rat)) [] hlt)
      have hn := hnil.out i hih (Nat.le_refl _)
      go_wp2_with (first | (with_reducible refine up_ix1 slRats (by omega) (by assumption) ?_) | ((with_reducible show wpList _ _ _ (⟨_, .makeSlice _ _ _, _, _, _, _⟩ :: _) _ _); refine st_make (R := QC) slRat QC.elem (0 : Rat) (fun _ => QC.zero _) (mz X ao hs) hXz wr.heap.size (Nat.le_refl _) c rfl rfl rfl (by omega) (by omega) ?_; intro a1 w2 hO2 hE2) | ((with_reducible show wpList _ _ _ (⟨_, .store _ _ _, _, _, _, _⟩ :: _) _ _); refine st_store tyRats HdR.elem i rfl (by simp) (hM.outer.ext0 HdR.elem hE2) hih (.slice a1 c c) (a1, c, c) rfl rfl ?_; intro w3 hO3 hE3))
      have hM3 := hM.put (l := List.replicate c 0) hih hn hE2 (fun k hk => (hO2.block hk).1) (hO2.base_le hE.size) hXr hE3 (by simpa using hO3)
      rw [hps.out] at hM3
      have hE4 : Ext w w3 := (hE.trans hE2).then_ hE3 fun k hk _ => by
        cases hb : ob ao k
        · rfl
        · have := (hM.outer.block hb).1; omega
      have hnil2 : Hid (∀ q (hq : q < (hs.set i (a1, (List.replicate c (0 : Rat)).length, c)).length), i + 1 <= q -> (hs.set i (a1, (List.replicate c (0 : Rat)).length, c))[q].1 = none) := hid fun q hq hiq => by
        rw [List.getElem_set_ne (by omega)]; exact hnil.out q (by simpa using hq) (by omega)
      go_roundw
      case rel => exact ⟨i + 1, _, by go_num, by omega, hnil2, hM3, hE4⟩
      case measure => simp [intOf]; omega
    · have hir : i = r := by omega
      subst hir
      rw [part_full] at hM
      go_wp2_with fail
      go_ret
      exact ⟨hE, ao, i, hs, by simp, hM⟩
end Go.Proofs.YtnnpfhoigmegcaaGreat
