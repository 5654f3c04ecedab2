/- Parts of a proof: each theorem states what it proves, and its conditions. -/
import Derived.Test.YthipmbmjodhiiaaGreatHxF
namespace Go.Proofs.YthipmbmjodhiiaaGreat
open Go.RowKit Go.Rep Go.Lim
theorem over_low (z k : Int) (hk : 0 < k) : ((z : Rat) / (k : Rat)).num = z / (Nat.gcd z.natAbs k.natAbs : Nat) /\ (((z : Rat) / (k : Rat)).den : Int) = k / (Nat.gcd z.natAbs k.natAbs : Nat) := by
  have h := mk_pos z k hk
  have hk0 : k.natAbs ≠ 0 := by omega
  rw [<- h, Rat.num_mkRat, Rat.den_mkRat]
  rw [if_neg hk0, if_neg hk0, Nat.gcd_comm k.natAbs]
  refine ⟨rfl, ?_⟩
  rw [Int.natCast_ediv]
  congr 1
  omega
set_option maxRecDepth 100000 in
set_option maxHeartbeats 1600000 in
theorem rqover (X : Nat -> Bool) (w : World) (u v : Value) (x y : Int) (hX : HX X w) (hu : ZC (mk X w) u x) (hv : ZC (mk X w) v y) (hx : lg x.natAbs <= 274877906944) (hy : lg y.natAbs <= 274877906944) (hy0 : y ≠ 0) : Calls Tryz.prog 52 #[u, v] w (ROut X w QC ((x : Rat) / (y : Rat))) := by
  have hlx := hid hx
  have hly := hid hy
  obtain ⟨s1, a1, n1, c1, rfl⟩ := hu.shape
  obtain ⟨s2, a2, n2, c2, rfl⟩ := hv.shape
  obtain ⟨W, hW, hE, b0, b1, b2, hz⟩ := boxes3 w #[.bool s1, .slice a1 n1 c1] #[.bool s2, .slice a2 n2 c2] #[.bool false, .slice none 0 0, .slice none 0 0] 32 32 34
  have hXW : HX (hidB X w.heap.size 3) W := hX.boxes hz
  have hu1 := ZC.mono _ _ _ _ (le_boxes (nb := 3) hE) hu
  have hv1 := ZC.mono _ _ _ _ (le_boxes (nb := 3) hE) hv
  obtain ⟨b, hb⟩ : ∃ b, w.heap.size = b := ⟨_, rfl⟩
  have hbw : w.heap.size <= b := by omega
  rw [hb] at b0 b1 b2 hz hXW hu1 hv1
  have hvz := hv1.zv (Nat.le_trans hy (by decide))
  have huz := hu1.zv (Nat.le_trans hx (by decide))
  have k00 := b0.cell 0 rfl
  have k01 := b0.cell 1 rfl
  have k10 := b1.cell 0 rfl
  have k11 := b1.cell 1 rfl
  have h0 : 0 < y \/ y < 0 := by omega
  obtain ⟨q, hq'⟩ : ∃ q : Rat, (x : Rat) / (y : Rat) = q := ⟨_, rfl⟩
  rw [hq']
  clear hu hv hx hy
  go_enter Tryz.func52, Tryz.ntmps52
  go_wp2_with fail
  refine (risign (hidB X b 3) W _ _ hXW hvz).mono ?_
  rintro e w5 ⟨hE5, rfl⟩
  have bb0 := b0.ext0 hE5
  have bb1 := b1.ext0 hE5
  have bb2 := b2.ext0 hE5
  clear k00 k01 k10 k11
  rcases h0 with h0 | h0
  · have hI2 : decide (y.sign < 0) = false := by rw [Int.sign_eq_one_of_pos h0]; rfl
    have hk : Hid (0 < y) := hid h0
    generalize y.sign = sgy at *
    have hzn := mkx ZC.mono hu1 hE5
    have hzd := mkx ZC.mono hv1 hE5
    have hXs := hXW.ext hE5
    have hEs := hE.trans hE5
    clear h0 hy0
    generalize hsz : s1 = sz at *
    generalize haz : a1 = az at *
    generalize hnz : n1 = nz at *
    generalize hcz : c1 = cz at *
    generalize hsk : s2 = sk at *
    generalize hak : a2 = ak at *
    generalize hnk : n2 = nk at *
    generalize hck : c2 = ck at *
    generalize hwz : w5 = ws at *
    generalize hxz : x = z at *
    generalize hyk : y = k at *
    have bz0 := bb0
    have bz1 := bb1
    have bz2 := bb2
    have bzn := hlx
    have bzk := hly
    have hres := hid hq'
    clear hq'
    have k00 := bz0.cell 0 rfl
    have k01 := bz0.cell 1 rfl
    have k10 := bz1.cell 0 rfl
    have k11 := bz1.cell 1 rfl
    have hgp := hid (Nat.gcd_pos_of_pos_right z.natAbs (show 0 < k.natAbs by have := hk.out; omega))
    have hgz := hid (show ((Nat.gcd z.natAbs k.natAbs : Nat) : Int) ∣ z from Int.ofNat_dvd_left.2 (Nat.gcd_dvd_left _ _))
    have hgk := hid (show ((Nat.gcd z.natAbs k.natAbs : Nat) : Int) ∣ k from Int.ofNat_dvd_left.2 (Nat.gcd_dvd_right _ _))
    have hgl := hid (show lg (Nat.gcd z.natAbs k.natAbs) <= 274877906944 from Nat.le_trans (lg_mono (Nat.gcd_le_right _ (by have := hk.out; omega))) bzk.out)
    have hlow := hid (over_low z k hk.out)
    obtain ⟨g, hg⟩ : ∃ g, Nat.gcd z.natAbs k.natAbs = g := ⟨_, rfl⟩
    rw [hg] at hgp hgz hgk hgl hlow
    replace hg := hid hg
    go_wp2_with fail
    refine (rigcd (hidB X b 3) ws _ _ _ _ hXs (hzn.zv (Nat.le_trans bzn.out (by decide))) (hzd.zv (Nat.le_trans bzk.out (by decide))) bzn.out bzk.out).mono ?_
    rintro e6 w6 ⟨hE6, ug, rfl, hug⟩
    rw [hg.out] at hug
    obtain ⟨ag, cg, lgd, rfl, g1, g2, g3⟩ := hug
    have bg := Bx.new w6 #[.bool false, .slice none 0 0] 32
    have hXg := hXs.ext hE6
    clear k00 k01 k10 k11
    go_wp2_with ((with_reducible show wpList _ _ _ (⟨_, .store _ _ _, _, _, _, _⟩ :: _) _ _); refine st_storeBox stInt rfl rfl bg rfl rfl (one2 _ _ _ _) ?_; intro w7 r1 r2; have hE7 : Ext w6 w7 := ExtX.box ((ExtX.refl w6).alloc _) r2 (Nat.le_refl _); have t7 := hE6.trans hE7; have k00 := (bz0.ext0 t7).cell 0 rfl; have k01 := (bz0.ext0 t7).cell 1 rfl; have k50 := r1.cell 0 rfl; have k51 := r1.cell 1 rfl)
    have hX7 := (hXg.ext hE7)
    have hug7 : ZC (mk (hidB X b 3) w7) (.agg #[.bool false, .slice ag lgd.length cg]) (g : Int) := NC.zc (NC.mono _ _ _ _ (mk_ext hE7) ⟨ag, cg, lgd, rfl, g1, g2, g3⟩)
    have hz7 := mkx ZC.mono hzn t7
    have hgl2 : Hid (lg ((g : Int)).natAbs <= 274877906944) := hid (by rw [Int.natAbs_natCast]; exact hgl.out)
    have hgpI : Hid ((0 : Int) < (g : Int)) := hid (by have := hgp.out; omega)
    refine (ridiv (hidB X b 3) w7 _ _ z g hX7 (hz7.zv (Nat.le_trans bzn.out (by decide))) (hug7.zv (Nat.le_trans hgl2.out (by decide))) bzn.out hgl2.out hgpI.out hgz.out).mono ?_
    rintro e8 w8 ⟨hE8, up, sv, av, nv, cv, rfl, hup⟩
    obtain ⟨sp, ap, np, cp, rfl⟩ := hup.shape
    obtain ⟨W8, hW8, hEb8, bp, br, hz8⟩ := boxes2 w8 #[.bool false, .slice none 0 0] #[.bool false, .slice none 0 0] 32 32
    subst hW8
    clear k00 k01 k50 k51
    go_wp2_with ((with_reducible show wpList _ _ _ (⟨_, .store _ _ _, _, _, _, _⟩ :: _) _ _); first | (refine st_storeBox stInt rfl rfl bp rfl rfl (one2 _ _ _ _) ?_; intro w9 p1 p2; have br' := br.ext p2 (ob_other (by omega))) | (refine st_storeBox stInt rfl rfl br' rfl rfl (one2 _ _ _ _) ?_; intro w10 p3 p4; have hE10 : Ext w8 w10 := ExtX.box (ExtX.box hEb8 p2 (Nat.le_refl _)) p4 (by omega); have t10 := t7.trans (hE8.trans hE10); have k10 := (bz1.ext0 t10).cell 0 rfl; have k11 := (bz1.ext0 t10).cell 1 rfl; have r10 := r1.ext0 (hE8.trans hE10); have k50 := r10.cell 0 rfl; have k51 := r10.cell 1 rfl; have p10 := p1.ext p4 (ob_other (by omega))))
    have hup10 := mkx ZC.mono hup hE10
    have hX10 := (hX7.ext hE8).ext hE10
    have hk10 := mkx ZC.mono hzd t10
    have hug10 := mkx ZC.mono (mkx ZC.mono hug7 hE8) hE10
    refine (ridiv (hidB X b 3) w10 _ _ k g hX10 (hk10.zv (Nat.le_trans bzk.out (by decide))) (hug10.zv (Nat.le_trans hgl2.out (by decide))) bzk.out hgl2.out hgpI.out hgk.out).mono ?_
    rintro e11 w11 ⟨hE11, uq, sv2, av2, nv2, cv2, rfl, huq⟩
    obtain ⟨sq, aq, nq, cq, rfl⟩ := huq.shape
    obtain ⟨W11, hW11, hEb11, bq, br2, hz11⟩ := boxes2 w11 #[.bool false, .slice none 0 0] #[.bool false, .slice none 0 0] 32 32
    subst hW11
    clear k10 k11 k50 k51 br' br
    go_wp2_with ((with_reducible show wpList _ _ _ (⟨_, .store _ _ _, _, _, _, _⟩ :: _) _ _); first | (refine st_storeBox stInt rfl rfl bq rfl rfl (one2 _ _ _ _) ?_; intro w12 p5 p6; have br' := br2.ext p6 (ob_other (by omega))) | (refine st_storeBox stInt rfl rfl br' rfl rfl (one2 _ _ _ _) ?_; intro w13 p7 p8; have hE13 : Ext w11 w13 := ExtX.box (ExtX.box hEb11 p6 (Nat.le_refl _)) p8 (by omega); have t13 := t10.trans (hE11.trans hE13); have q13 := p5.ext p8 (ob_other (by omega)); have k90 := q13.cell 0 rfl; have k91 := q13.cell 1 rfl; have f90 := q13.frozen 0; have f91 := q13.frozen 1; have p13 := p10.ext0 (hE11.trans hE13); have k60 := p13.cell 0 rfl; have k61 := p13.cell 1 rfl))
    have huq13 := mkx ZC.mono huq hE13
    have hup13 := mkx ZC.mono (mkx ZC.mono hup10 hE11) hE13
    have hmq := huq13.mag
    have hkq : Hid (lg (k / (g : Int)).natAbs <= 1099511627776) := hid (by
      have h1 := hlow.out.2
      have : (k / (g : Int)).natAbs <= k.natAbs := by
        have := Int.natAbs_ediv_le_natAbs k (g : Int); exact this
      exact Nat.le_trans (lg_mono this) (Nat.le_trans bzk.out (by decide)))
    have bz13 := bz2.ext0 t13
    have hEs13 := hEs.trans t13
    refine (rqone _ _ _ _ hmq hkq.out).mono ?_
    rintro e14 w14 ⟨rfl, rfl⟩
    have hkg : Hid ((q.den : Int) = k / (g : Int)) := hid (by rw [<- hres.out]; exact hlow.out.2)
    have hzg : Hid (q.num = z / (g : Int)) := hid (by rw [<- hres.out]; exact hlow.out.1)
    by_cases h1 : (k / (g : Int)).natAbs = 1
    · have hd1 : Hid (dn q = 0) := hid ((dn_zero q).2 (by have := hkg.out; have := q.den_pos; omega))
      rw [decide_eq_true h1]
      clear h1
      go_upto_region 8 with (fail)
      obtain ⟨m1, m2⟩ := setCell_block q13 (.slice none 0 0) (i := 1) (by simp)
      obtain ⟨w14, hw14⟩ : ∃ w14, w13.setCell ⟨w11.heap.size, 1, none⟩ (.slice none 0 0) = w14 := ⟨_, rfl⟩
      rw [hw14] at m1 m2 |-
      have hE14 : Ext w11 w14 := ExtX.box hE13 m2 (Nat.le_refl _)
      have t14 := t10.trans (hE11.trans hE14)
      have bz14 := bz2.ext0 t14
      have p14 := p10.ext0 (hE11.trans hE14)
      clear k60 k61 k90 k91 f90 f91
      have k60 : w14.cell? ⟨w8.heap.size, 0, none⟩ = some (.bool sp) := p14.cell 0 rfl
      have k61 : w14.cell? ⟨w8.heap.size, 1, none⟩ = some (.slice ap np cp) := p14.cell 1 rfl
      have k91 : w14.cell? ⟨w11.heap.size, 1, none⟩ = some (.slice none 0 0) := m1.cell 1 rfl
      have hup14 := mkx ZC.mono (mkx ZC.mono hup10 hE11) hE14
      go_wp2_with ((with_reducible show wpList _ _ _ (⟨_, .store _ _ _, _, _, _, _⟩ :: _) _ _); refine st_storeBox stRat rfl rfl bz14 rfl rfl (one3 _ _ _ _ _ _ _) ?_; intro w15 r3 r4)
      have hfz : ZC (mk (hidB X b 3) w14) (.agg #[.bool sp, .slice ap np cp]) q.num := by rw [hzg.out]; exact hup14
      have hfd : NC (mk (hidB X b 3) w14) (.slice none 0 0) (dn q) := by rw [hd1.out]; exact NC.zero _
      have h7 := QC.mono _ _ _ _ le_unbox (QC.mono _ _ _ _ (le_store r4 (by omega) (by omega)) (QC.of hfz hfd))
      exact bodyPost_ret (results_box rfl rfl stRat r3 rfl) rfl ⟨ExtX.box (hEs.trans t14) r4 (by omega), _, rfl, h7⟩
    · have hd1 : Hid (dn q = (k / (g : Int)).natAbs) := hid (by
        have h2 := hkg.out
        unfold dn; rw [if_neg (by omega)]; omega)
      rw [decide_eq_false h1]
      clear h1
      go_wp2_with ((with_reducible show wpList _ _ _ (⟨_, .store _ _ _, _, _, _, _⟩ :: _) _ _); refine st_storeBox stRat rfl rfl bz13 rfl rfl (one3 _ _ _ _ _ _ _) ?_; intro w15 r3 r4)
      have hfz : ZC (mk (hidB X b 3) w13) (.agg #[.bool sp, .slice ap np cp]) q.num := by rw [hzg.out]; exact hup13
      have hfd : NC (mk (hidB X b 3) w13) (.slice aq nq cq) (dn q) := by rw [hd1.out]; exact hmq
      have h7 := QC.mono _ _ _ _ le_unbox (QC.mono _ _ _ _ (le_store r4 (by omega) (by omega)) (QC.of hfz hfd))
      exact bodyPost_ret (results_box rfl rfl stRat r3 rfl) rfl ⟨ExtX.box hEs13 r4 (by omega), _, rfl, h7⟩
  · have hI2 : decide (y.sign < 0) = true := by rw [Int.sign_eq_neg_one_of_neg h0]; rfl
    have hkn : Hid (0 < -y) := hid (by omega)
    generalize y.sign = sgy at *
    have hEd : Ext w5 w5.drew := (ExtX.refl w5).drew
    have hXd : HX (hidB X b 3) w5.drew := HX.ext (HX.ext hXW hE5) hEd
    have hud : ZV (mk (hidB X b 3) w5.drew) (.agg #[.bool s1, .slice a1 n1 c1]) x := mkx ZV.mono huz (hE5.trans hEd)
    have hvd : ZV (mk (hidB X b 3) w5.drew) (.agg #[.bool s2, .slice a2 n2 c2]) y := mkx ZV.mono hvz (hE5.trans hEd)
    have k00 := bb0.cell 0 rfl
    have k01 := bb0.cell 1 rfl
    have k10 := bb1.cell 0 rfl
    have k11 := bb1.cell 1 rfl
    have hres0 : Hid (((-x : Int) : Rat) / ((-y : Int) : Rat) = q) := hid (by
      rw [<- hq', Rat.intCast_neg, Rat.intCast_neg]; have : (y : Rat) ≠ 0 := by exact_mod_cast hy0
      grind)
    have bzn : Hid (lg (-x).natAbs <= 274877906944) := hid (by rw [Int.natAbs_neg]; exact hlx.out)
    have bzk : Hid (lg (-y).natAbs <= 274877906944) := hid (by rw [Int.natAbs_neg]; exact hly.out)
    clear h0 hy0 hq'
    go_upto_region 2 with (fail)
    go_region_with (first | (go_at_call 79; (with_reducible refine (rineg (hidB X b 3) w5.drew _ x hXd hud).mono ?_); rintro e w6 ⟨hE6, u6, rfl, s5, a5, c5, l5, rfl, h51, h52, h53⟩; have b60 := bb0.ext0 (hEd.trans hE6); have b61 := bb1.ext0 (hEd.trans hE6); have e00 := b60.cell 0 rfl; have e01 := b60.cell 1 rfl; have e10 := b61.cell 0 rfl; have e11 := b61.cell 1 rfl) | (go_at_call 79; (with_reducible refine (rineg (hidB X b 3) w6 _ y (HX.ext hXd hE6) (mkx ZV.mono hvd hE6)).mono ?_); rintro e w7 ⟨hE7, u7, rfl, s6, a6, c6, l6, rfl, h61, h62, h63⟩; have b70 := b60.ext0 hE7; have b71 := b61.ext0 hE7; have g00 := b70.cell 0 rfl; have g01 := b70.cell 1 rfl; have g10 := b71.cell 0 rfl; have g11 := b71.cell 1 rfl; have fr0 := b70.frozen 0; have fr1 := b70.frozen 1; have fr2 := b71.frozen 0; have fr3 := b71.frozen 1))
    all_goals
      obtain ⟨ws, hwf, bz0, bz1, qq2, hEs, q4⟩ := two_stores (X := X) (nb := 3) b70 b71 (hE.trans (hE5.trans ((hEd.trans hE6).trans hE7))) hbw (by omega) (.bool s5) (.slice a5 l5.length c5) (.bool s6) (.slice a6 l6.length c6)
      rw [hwf]
      have hzn : ZC (mk (hidB X b 3) ws) (.agg #[.bool s5, .slice a5 l5.length c5]) (-x) := ⟨s5, a5, c5, l5, rfl, h51, h52, (h53.mono (NatIn.mono _) (mk_ext hE7)).mono (NatIn.mono _) q4⟩
      have hzd : ZC (mk (hidB X b 3) ws) (.agg #[.bool s6, .slice a6 l6.length c6]) (-y) := ⟨s6, a6, c6, l6, rfl, h61, h62, h63.mono (NatIn.mono _) q4⟩
      have bz2 := qq2 (b + 1 + 1) _ _ (by omega) (by omega) (((bb2.ext0 hEd).ext0 hE6).ext0 hE7)
      have hzz : w.heap.size + 3 <= ws.heap.size := by have := bz2.lt; omega
      have hXs : HX (hidB X b 3) ws := hX.boxes' hEs (by have := hzz; omega) hzz
      clear e00 e01 e10 e11 g00 g01 g10 g11 fr0 fr1 fr2 fr3 k00 k01 k10 k11 hwf b60 b61 b70 b71 h51 h52 h53 h61 h62 h63
      have hres := hres0
      have hk := hkn
      generalize hsz : s5 = sz at *
      generalize haz : a5 = az at *
      generalize hnz : l5.length = nz at *
      generalize hcz : c5 = cz at *
      generalize hsk : s6 = sk at *
      generalize hak : a6 = ak at *
      generalize hnk : l6.length = nk at *
      generalize hck : c6 = ck at *
      generalize hxz : -x = z at *
      generalize hyk : -y = k at *
      have k00 := bz0.cell 0 rfl
      have k01 := bz0.cell 1 rfl
      have k10 := bz1.cell 0 rfl
      have k11 := bz1.cell 1 rfl
      have hgp := hid (Nat.gcd_pos_of_pos_right z.natAbs (show 0 < k.natAbs by have := hk.out; omega))
      have hgz := hid (show ((Nat.gcd z.natAbs k.natAbs : Nat) : Int) ∣ z from Int.ofNat_dvd_left.2 (Nat.gcd_dvd_left _ _))
      have hgk := hid (show ((Nat.gcd z.natAbs k.natAbs : Nat) : Int) ∣ k from Int.ofNat_dvd_left.2 (Nat.gcd_dvd_right _ _))
      have hgl := hid (show lg (Nat.gcd z.natAbs k.natAbs) <= 274877906944 from Nat.le_trans (lg_mono (Nat.gcd_le_right _ (by have := hk.out; omega))) bzk.out)
      have hlow := hid (over_low z k hk.out)
      obtain ⟨g, hg⟩ : ∃ g, Nat.gcd z.natAbs k.natAbs = g := ⟨_, rfl⟩
      rw [hg] at hgp hgz hgk hgl hlow
      replace hg := hid hg
      go_wp2_with fail
      refine (rigcd (hidB X b 3) ws _ _ _ _ hXs (hzn.zv (Nat.le_trans bzn.out (by decide))) (hzd.zv (Nat.le_trans bzk.out (by decide))) bzn.out bzk.out).mono ?_
      rintro e6 w6 ⟨hE6, ug, rfl, hug⟩
      rw [hg.out] at hug
      obtain ⟨ag, cg, lgd, rfl, g1, g2, g3⟩ := hug
      have bg := Bx.new w6 #[.bool false, .slice none 0 0] 32
      have hXg := hXs.ext hE6
      clear k00 k01 k10 k11
      go_wp2_with ((with_reducible show wpList _ _ _ (⟨_, .store _ _ _, _, _, _, _⟩ :: _) _ _); refine st_storeBox stInt rfl rfl bg rfl rfl (one2 _ _ _ _) ?_; intro w7 r1 r2; have hE7 : Ext w6 w7 := ExtX.box ((ExtX.refl w6).alloc _) r2 (Nat.le_refl _); have t7 := hE6.trans hE7; have k00 := (bz0.ext0 t7).cell 0 rfl; have k01 := (bz0.ext0 t7).cell 1 rfl; have k50 := r1.cell 0 rfl; have k51 := r1.cell 1 rfl)
      have hX7 := (hXg.ext hE7)
      have hug7 : ZC (mk (hidB X b 3) w7) (.agg #[.bool false, .slice ag lgd.length cg]) (g : Int) := NC.zc (NC.mono _ _ _ _ (mk_ext hE7) ⟨ag, cg, lgd, rfl, g1, g2, g3⟩)
      have hz7 := mkx ZC.mono hzn t7
      have hgl2 : Hid (lg ((g : Int)).natAbs <= 274877906944) := hid (by rw [Int.natAbs_natCast]; exact hgl.out)
      have hgpI : Hid ((0 : Int) < (g : Int)) := hid (by have := hgp.out; omega)
      refine (ridiv (hidB X b 3) w7 _ _ z g hX7 (hz7.zv (Nat.le_trans bzn.out (by decide))) (hug7.zv (Nat.le_trans hgl2.out (by decide))) bzn.out hgl2.out hgpI.out hgz.out).mono ?_
      rintro e8 w8 ⟨hE8, up, sv, av, nv, cv, rfl, hup⟩
      obtain ⟨sp, ap, np, cp, rfl⟩ := hup.shape
      obtain ⟨W8, hW8, hEb8, bp, br, hz8⟩ := boxes2 w8 #[.bool false, .slice none 0 0] #[.bool false, .slice none 0 0] 32 32
      subst hW8
      clear k00 k01 k50 k51
      go_wp2_with ((with_reducible show wpList _ _ _ (⟨_, .store _ _ _, _, _, _, _⟩ :: _) _ _); first | (refine st_storeBox stInt rfl rfl bp rfl rfl (one2 _ _ _ _) ?_; intro w9 p1 p2; have br' := br.ext p2 (ob_other (by omega))) | (refine st_storeBox stInt rfl rfl br' rfl rfl (one2 _ _ _ _) ?_; intro w10 p3 p4; have hE10 : Ext w8 w10 := ExtX.box (ExtX.box hEb8 p2 (Nat.le_refl _)) p4 (by omega); have t10 := t7.trans (hE8.trans hE10); have k10 := (bz1.ext0 t10).cell 0 rfl; have k11 := (bz1.ext0 t10).cell 1 rfl; have r10 := r1.ext0 (hE8.trans hE10); have k50 := r10.cell 0 rfl; have k51 := r10.cell 1 rfl; have p10 := p1.ext p4 (ob_other (by omega))))
      have hup10 := mkx ZC.mono hup hE10
      have hX10 := (hX7.ext hE8).ext hE10
      have hk10 := mkx ZC.mono hzd t10
      have hug10 := mkx ZC.mono (mkx ZC.mono hug7 hE8) hE10
      refine (ridiv (hidB X b 3) w10 _ _ k g hX10 (hk10.zv (Nat.le_trans bzk.out (by decide))) (hug10.zv (Nat.le_trans hgl2.out (by decide))) bzk.out hgl2.out hgpI.out hgk.out).mono ?_
      rintro e11 w11 ⟨hE11, uq, sv2, av2, nv2, cv2, rfl, huq⟩
      obtain ⟨sq, aq, nq, cq, rfl⟩ := huq.shape
      obtain ⟨W11, hW11, hEb11, bq, br2, hz11⟩ := boxes2 w11 #[.bool false, .slice none 0 0] #[.bool false, .slice none 0 0] 32 32
      subst hW11
      clear k10 k11 k50 k51 br' br
      go_wp2_with ((with_reducible show wpList _ _ _ (⟨_, .store _ _ _, _, _, _, _⟩ :: _) _ _); first | (refine st_storeBox stInt rfl rfl bq rfl rfl (one2 _ _ _ _) ?_; intro w12 p5 p6; have br' := br2.ext p6 (ob_other (by omega))) | (refine st_storeBox stInt rfl rfl br' rfl rfl (one2 _ _ _ _) ?_; intro w13 p7 p8; have hE13 : Ext w11 w13 := ExtX.box (ExtX.box hEb11 p6 (Nat.le_refl _)) p8 (by omega); have t13 := t10.trans (hE11.trans hE13); have q13 := p5.ext p8 (ob_other (by omega)); have k90 := q13.cell 0 rfl; have k91 := q13.cell 1 rfl; have f90 := q13.frozen 0; have f91 := q13.frozen 1; have p13 := p10.ext0 (hE11.trans hE13); have k60 := p13.cell 0 rfl; have k61 := p13.cell 1 rfl))
      have huq13 := mkx ZC.mono huq hE13
      have hup13 := mkx ZC.mono (mkx ZC.mono hup10 hE11) hE13
      have hmq := huq13.mag
      have hkq : Hid (lg (k / (g : Int)).natAbs <= 1099511627776) := hid (by
        have h1 := hlow.out.2
        have : (k / (g : Int)).natAbs <= k.natAbs := by
          have := Int.natAbs_ediv_le_natAbs k (g : Int); exact this
        exact Nat.le_trans (lg_mono this) (Nat.le_trans bzk.out (by decide)))
      have bz13 := bz2.ext0 t13
      have hEs13 := hEs.trans t13
      refine (rqone _ _ _ _ hmq hkq.out).mono ?_
      rintro e14 w14 ⟨rfl, rfl⟩
      have hkg : Hid ((q.den : Int) = k / (g : Int)) := hid (by rw [<- hres.out]; exact hlow.out.2)
      have hzg : Hid (q.num = z / (g : Int)) := hid (by rw [<- hres.out]; exact hlow.out.1)
      by_cases h1 : (k / (g : Int)).natAbs = 1
      · have hd1 : Hid (dn q = 0) := hid ((dn_zero q).2 (by have := hkg.out; have := q.den_pos; omega))
        rw [decide_eq_true h1]
        clear h1
        go_upto_region 8 with (fail)
        obtain ⟨m1, m2⟩ := setCell_block q13 (.slice none 0 0) (i := 1) (by simp)
        obtain ⟨w14, hw14⟩ : ∃ w14, w13.setCell ⟨w11.heap.size, 1, none⟩ (.slice none 0 0) = w14 := ⟨_, rfl⟩
        rw [hw14] at m1 m2 |-
        have hE14 : Ext w11 w14 := ExtX.box hE13 m2 (Nat.le_refl _)
        have t14 := t10.trans (hE11.trans hE14)
        have bz14 := bz2.ext0 t14
        have p14 := p10.ext0 (hE11.trans hE14)
        clear k60 k61 k90 k91 f90 f91
        have k60 : w14.cell? ⟨w8.heap.size, 0, none⟩ = some (.bool sp) := p14.cell 0 rfl
        have k61 : w14.cell? ⟨w8.heap.size, 1, none⟩ = some (.slice ap np cp) := p14.cell 1 rfl
        have k91 : w14.cell? ⟨w11.heap.size, 1, none⟩ = some (.slice none 0 0) := m1.cell 1 rfl
        have hup14 := mkx ZC.mono (mkx ZC.mono hup10 hE11) hE14
        go_wp2_with ((with_reducible show wpList _ _ _ (⟨_, .store _ _ _, _, _, _, _⟩ :: _) _ _); refine st_storeBox stRat rfl rfl bz14 rfl rfl (one3 _ _ _ _ _ _ _) ?_; intro w15 r3 r4)
        have hfz : ZC (mk (hidB X b 3) w14) (.agg #[.bool sp, .slice ap np cp]) q.num := by rw [hzg.out]; exact hup14
        have hfd : NC (mk (hidB X b 3) w14) (.slice none 0 0) (dn q) := by rw [hd1.out]; exact NC.zero _
        have h7 := QC.mono _ _ _ _ le_unbox (QC.mono _ _ _ _ (le_store r4 (by omega) (by omega)) (QC.of hfz hfd))
        exact bodyPost_ret (results_box rfl rfl stRat r3 rfl) rfl ⟨ExtX.box (hEs.trans t14) r4 (by omega), _, rfl, h7⟩
      · have hd1 : Hid (dn q = (k / (g : Int)).natAbs) := hid (by
          have h2 := hkg.out
          unfold dn; rw [if_neg (by omega)]; omega)
        rw [decide_eq_false h1]
        clear h1
        go_wp2_with ((with_reducible show wpList _ _ _ (⟨_, .store _ _ _, _, _, _, _⟩ :: _) _ _); refine st_storeBox stRat rfl rfl bz13 rfl rfl (one3 _ _ _ _ _ _ _) ?_; intro w15 r3 r4)
        have hfz : ZC (mk (hidB X b 3) w13) (.agg #[.bool sp, .slice ap np cp]) q.num := by rw [hzg.out]; exact hup13
        have hfd : NC (mk (hidB X b 3) w13) (.slice aq nq cq) (dn q) := by rw [hd1.out]; exact hmq
        have h7 := QC.mono _ _ _ _ le_unbox (QC.mono _ _ _ _ (le_store r4 (by omega) (by omega)) (QC.of hfz hfd))
        exact bodyPost_ret (results_box rfl rfl stRat r3 rfl) rfl ⟨ExtX.box hEs13 r4 (by omega), _, rfl, h7⟩
end Go.Proofs.YthipmbmjodhiiaaGreat
namespace Go.Proofs.YthipmbmjodhiiaaGreat
open Go.RowKit Go.Rep Go.Lim
theorem rqfrom (X : Nat -> Bool) (w : World) (v : Int) (hX : HX X w) (h1 : -9223372036854775808 <= v) (h2 : v <= 9223372036854775807) : Calls Tryz.prog 45 #[.int .i64 v] w (ROut X w QC v) := by
  obtain ⟨W, hW, hE, b0, hz⟩ := boxes1 w #[.bool false, .slice none 0 0, .slice none 0 0] 34
  have hXW : HX (hidB X w.heap.size 1) W := hX.boxes hz
  obtain ⟨b, hb⟩ : ∃ b, w.heap.size = b := ⟨_, rfl⟩
  have hbw : w.heap.size <= b := by omega
  rw [hb] at b0 hz hXW
  have h1' := hid h1
  have h2' := hid h2
  clear h1 h2
  go_enter Tryz.func45, Tryz.ntmps45
  go_wp2_with fail
  refine (rifrom (hidB X b 1) W v hXW h1'.out h2'.out).mono ?_
  rintro e1 w1 ⟨hE1, u1, rfl, s6, a6, c6, l6, rfl, h61, h62, h63⟩
  have b1' := b0.ext0 hE1
  have hcq := CanQ.ofInt h62
  go_wp2_with ((with_reducible show wpList _ _ _ (⟨_, .store _ _ _, _, _, _, _⟩ :: _) _ _); refine st_storeBox stRat rfl rfl b1' rfl rfl (one3 _ _ _ _ _ _ _) ?_; intro w7 r1 r2)
  have h7 := (h63.mono (NatIn.mono _) (le_store r2 (by omega) (by omega))).mono (NatIn.mono _) le_unbox
  exact bodyPost_ret (results_box rfl rfl stRat r1 rfl) rfl ⟨ExtX.box (hE.trans hE1) r2 (by omega), _, rfl, s6, a6, c6, l6, none, 0, [], rfl, h61, Nat.le_refl _, hcq, h7, Sl.nil _ _ _ _⟩
set_option maxRecDepth 100000 in
theorem rqsign (X : Nat -> Bool) (w : World) (u : Value) (x : Rat) (hX : HX X w) (hu : QV (mk X w) u x) : Calls Tryz.prog 20 #[u] w (IntOut w x.num.sign) := by
  have hlx := hid hu.hq
  obtain ⟨s1, a1, n1, c1, d1, k1, e1, rfl⟩ := hu.shape
  obtain ⟨W, hW, hE, b0, hz⟩ := boxes1 w #[.bool s1, .slice a1 n1 c1, .slice d1 k1 e1] 34
  have hXW : HX X W := hX.ext hE
  have hu1 := mkx QV.mono hu hE
  obtain ⟨b, hb⟩ : ∃ b, w.heap.size = b := ⟨_, rfl⟩
  rw [hb] at b0 hz
  have k00 := b0.cell 0 rfl
  have k01 := b0.cell 1 rfl
  have k02 := b0.cell 2 rfl
  have hfl := run_fieldNum
  clear hu
  go_enter Tryz.func20, Tryz.ntmps20
  go_wp2_with fail
  refine (rqtake X W _ x hXW hu1).mono ?_
  rintro ee w5 ⟨hE5, u5, rfl, hq5⟩
  obtain ⟨s5, a5, n5, c5, d5, k5, e5, rfl⟩ := hq5.shape
  have hz5 := hq5.num.1.zv (Nat.le_trans (Nat.le_trans (hq_num x) hlx.out) (by omega))
  clear k00 k01 k02
  go_wp2_with fail
  refine (risign X w5 _ _ (hXW.ext hE5) hz5).mono ?_
  rintro ee w6 ⟨hE6, rfl⟩
  go_wp2_with fail
  go_ret
  exact ⟨hE.trans (hE5.trans hE6), rfl⟩
set_option maxRecDepth 100000 in
theorem rqneg (X : Nat -> Bool) (w : World) (u : Value) (x : Rat) (hX : HX X w) (hu : QV (mk X w) u x) : Calls Tryz.prog 50 #[u] w (ROut X w QC (-x)) := by
  have hlx := hid hu.hq
  obtain ⟨s1, a1, n1, c1, d1, k1, e1, rfl⟩ := hu.shape
  obtain ⟨W, hW, hE, b0, b1, hz⟩ := boxes2 w #[.bool s1, .slice a1 n1 c1, .slice d1 k1 e1] #[.bool false, .slice none 0 0, .slice none 0 0] 34 34
  have hXW : HX (hidB X w.heap.size 2) W := hX.boxes hz
  have hu1 := QV.mono _ _ _ _ (le_boxes (nb := 2) hE) hu
  obtain ⟨b, hb⟩ : ∃ b, w.heap.size = b := ⟨_, rfl⟩
  have hbw : w.heap.size <= b := by omega
  rw [hb] at b0 b1 hz hXW hu1
  have k00 := b0.cell 0 rfl
  have k01 := b0.cell 1 rfl
  have k02 := b0.cell 2 rfl
  clear hu
  go_enter Tryz.func50, Tryz.ntmps50
  go_wp2_with fail
  refine (rqtake (hidB X b 2) W _ x hXW hu1).mono ?_
  rintro e w5 ⟨hE5, u5, rfl, hq5⟩
  obtain ⟨s5, a5, n5, c5, d5, k5, e5, rfl⟩ := hq5.shape
  have hX5 := hXW.ext hE5
  have bb0 := b0.ext0 hE5
  have bb1 := b1.ext0 hE5
  clear k00 k01 k02
  go_upto_region 2 with ((with_reducible show wpList _ _ _ (⟨_, .store _ _ _, _, _, _, _⟩ :: _) _ _); refine st_storeBox stRat rfl rfl bb0 rfl rfl (one3 _ _ _ _ _ _ _) ?_; intro w7 r1 r2; have k00 := r1.cell 0 rfl; have k01 := r1.cell 1 rfl; have k02 := r1.cell 2 rfl)
  have hX7 := hX5.ext r2
  have bb3 := bb1.ext r2 (ob_other (by omega))
  have hx7 := QC.mono _ _ _ _ (le_store (X := X) (lo := b) (nb := 2) r2 (by omega) (by omega)) hq5
  have hE7 : Ext w w7 := ExtX.box (hE.trans hE5) r2 (by omega)
  obtain ⟨hxz, hxm, hxdn⟩ := hx7.num
  have hEd : Ext w7 w7.drew := (ExtX.refl w7).drew
  have hXd : HX (hidB X b 2) w7.drew := hX7
  have hxzd : ZC (mk (hidB X b 2) w7.drew) (.agg #[.bool s5, .slice a5 n5 c5]) x.num := hxz
  have hxdd : NC (mk (hidB X b 2) w7.drew) (.slice d5 k5 e5) (dn x) := hxdn
  have bxn : lg x.num.natAbs <= 549755813888 := Nat.le_trans (Nat.le_trans (hq_num x) hlx.out) (by omega)
  have bxd : lg (dn x) <= 549755813888 := Nat.le_trans (Nat.le_trans (dn_le x) hlx.out) (by omega)
  have hxv := hxzd.zv bxn
  have hS : Hid (∀ W', Ext w7.drew W' -> W'.cell? ⟨b, 0, none⟩ = some (.bool s5) /\ W'.cell? ⟨b, 1, none⟩ = some (.slice a5 n5 c5) /\ W'.cell? ⟨b, 2, none⟩ = some (.slice d5 k5 e5)) :=
    hid fun W' h => ⟨(r1.ext0 (hEd.trans h)).cell 0 rfl, (r1.ext0 (hEd.trans h)).cell 1 rfl, (r1.ext0 (hEd.trans h)).cell 2 rfl⟩
  go_region_held3 (fun w' => w'.cell? ⟨b, 0, none⟩ = some (.bool s5) /\ w'.cell? ⟨b, 1, none⟩ = some (.slice a5 n5 c5) /\ w'.cell? ⟨b, 2, none⟩ = some (.slice d5 k5 e5))
    (first | exact hS.out _ t1 | exact hS.out _ t2 | exact ⟨((r1.ext0 (hEd.trans t2)).ext (bb2.set3 _ _ _).2 (ob_other (by omega))).cell 0 rfl, ((r1.ext0 (hEd.trans t2)).ext (bb2.set3 _ _ _).2 (ob_other (by omega))).cell 1 rfl, ((r1.ext0 (hEd.trans t2)).ext (bb2.set3 _ _ _).2 (ob_other (by omega))).cell 2 rfl⟩ | go_keep)
    (first | (go_at_call 79; (with_reducible refine (rineg (hidB X b 2) w7.drew _ _ hXd hxv).mono ?_); rintro ee w8 ⟨t1, u8, rfl, s8, a8, c8, l8, rfl, h81, h82, h83⟩; have hX8 := HX.ext hXd t1; have t2 := t1; have hm8 := mkx NC.mono hxdd t1; have bb2 := bb3.ext0 (hEd.trans t2); have g0 := bb2.cell 0 rfl; have g1 := bb2.cell 1 rfl; have g2 := bb2.cell 2 rfl; have f0 := bb2.frozen 0; have f1 := bb2.frozen 1; have f2 := bb2.frozen 2))
  obtain ⟨q1, q2⟩ := bb2.set3 (.bool s8) (.slice a8 l8.length c8) (.slice d5 k5 e5)
  have hz : ZC (mk (hidB X b 2) w8) (.agg #[.bool s8, .slice a8 l8.length c8]) (-x).num := ⟨s8, a8, c8, l8, rfl, h81, by rw [Rat.neg_num]; exact h82, h83⟩
  have hd : NC (mk (hidB X b 2) w8) (.slice d5 k5 e5) (dn (-x)) := by rw [dn_neg]; exact hm8
  have h7 := QC.mono _ _ _ _ le_unbox (QC.mono _ _ _ _ (le_store q2 (by omega) (by omega)) (QC.of hz hd))
  have hEf : Ext w _ := ExtX.box (hE7.trans (hEd.trans t2)) q2 (by omega)
  clear g0 g1 g2 f0 f1 f2 k00 k01 k02 hS
  go_wp2_with fail
  exact bodyPost_ret (results_box rfl rfl stRat q1 rfl) rfl ⟨hEf, _, rfl, h7⟩
end Go.Proofs.YthipmbmjodhiiaaGreat
namespace Go.Proofs.YthipmbmjodhiiaaGreat
open Go.RowKit Go.Rep Go.Lim
set_option maxRecDepth 100000 in
set_option maxHeartbeats 1600000 in
theorem rqadd (X : Nat -> Bool) (w : World) (u v : Value) (x y : Rat) (hX : HX X w) (hu : QV (mk X w) u x) (hv : QV (mk X w) v y) : Calls Tryz.prog 48 #[u, v] w (ROut X w QC (x + y)) := by
  have hlx := hid hu.hq
  have hly := hid hv.hq
  obtain ⟨s1, a1, n1, c1, d1, k1, e1, rfl⟩ := hu.shape
  obtain ⟨s2, a2, n2, c2, d2, k2, e2, rfl⟩ := hv.shape
  obtain ⟨W, hW, hE, b0, b1, b2, hz⟩ := boxes3 w #[.bool s1, .slice a1 n1 c1, .slice d1 k1 e1] #[.bool s2, .slice a2 n2 c2, .slice d2 k2 e2] #[.bool false, .slice none 0 0, .slice none 0 0] 34 34 34
  have hXW : HX (hidB X w.heap.size 3) W := hX.boxes hz
  have hu1 := QV.mono _ _ _ _ (le_boxes (nb := 3) hE) hu
  have hv1 := QV.mono _ _ _ _ (le_boxes (nb := 3) hE) hv
  obtain ⟨b, hb⟩ : ∃ b, w.heap.size = b := ⟨_, rfl⟩
  have hbw : w.heap.size <= b := by omega
  rw [hb] at b0 b1 b2 hz hXW hu1 hv1
  have hEd : Ext W W.drew := (ExtX.refl W).drew
  have hXd : HX (hidB X b 3) W.drew := hXW
  have hud : QV (mk (hidB X b 3) W.drew) (.agg #[.bool s1, .slice a1 n1 c1, .slice d1 k1 e1]) x := hu1
  have hvd : QV (mk (hidB X b 3) W.drew) (.agg #[.bool s2, .slice a2 n2 c2, .slice d2 k2 e2]) y := hv1
  have k00 := b0.cell 0 rfl
  have k01 := b0.cell 1 rfl
  have k02 := b0.cell 2 rfl
  have k10 := b1.cell 0 rfl
  have k11 := b1.cell 1 rfl
  have k12 := b1.cell 2 rfl
  clear hu hv
  go_enter Tryz.func48, Tryz.ntmps48
  go_upto_region 1 with (fail)
  go_cut [] from 5 to 8 (fun wx => ∃ s3 a3 n3 c3 d3 k3 e3 s4 a4 n4 c4 d4 k4 e4, Bx wx b #[.bool s3, .slice a3 n3 c3, .slice d3 k3 e3] 34 /\ Bx wx (b + 1) #[.bool s4, .slice a4 n4 c4, .slice d4 k4 e4] 34 /\ Bx wx (b + 1 + 1) #[.bool false, .slice none 0 0, .slice none 0 0] 34 /\ QC (mk (hidB X b 3) wx) (.agg #[.bool s3, .slice a3 n3 c3, .slice d3 k3 e3]) x /\ QC (mk (hidB X b 3) wx) (.agg #[.bool s4, .slice a4 n4 c4, .slice d4 k4 e4]) y /\ Ext w wx)
  case first =>
    go_region_with (first | (go_at_call 51; (with_reducible refine (rqtake (hidB X b 3) W.drew _ x hXd hud).mono ?_); rintro ee w5 ⟨hE5, u5, rfl, hq5⟩; obtain ⟨s5, a5, n5, c5, d5, k5, e5, rfl⟩ := hq5.shape; have bb0 := b0.ext0 (hEd.trans hE5); have bb1 := b1.ext0 (hEd.trans hE5); have e00 := bb0.cell 0 rfl; have e01 := bb0.cell 1 rfl; have e02 := bb0.cell 2 rfl; have e10 := bb1.cell 0 rfl; have e11 := bb1.cell 1 rfl; have e12 := bb1.cell 2 rfl) | (go_at_call 51; (with_reducible refine (rqtake (hidB X b 3) w5 _ y (HX.ext hXd hE5) (mkx QV.mono hvd hE5)).mono ?_); rintro ee w6 ⟨hE6, u6, rfl, hq6⟩; obtain ⟨s6, a6, n6, c6, d6, k6, e6, rfl⟩ := hq6.shape; have bb2 := bb0.ext0 hE6; have bb3 := bb1.ext0 hE6; have g00 := bb2.cell 0 rfl; have g01 := bb2.cell 1 rfl; have g02 := bb2.cell 2 rfl; have g10 := bb3.cell 0 rfl; have g11 := bb3.cell 1 rfl; have g12 := bb3.cell 2 rfl; have fr0 := bb2.frozen 0; have fr1 := bb2.frozen 1; have fr4 := bb2.frozen 2; have fr2 := bb3.frozen 0; have fr3 := bb3.frozen 1; have fr5 := bb3.frozen 2))
    all_goals
      obtain ⟨wf, hwf, q0, q1, q2, q3, q4⟩ := two_stores3 (X := X) (nb := 3) bb2 bb3 (hE.trans ((hEd.trans hE5).trans hE6)) hbw (by omega) (.bool s5) (.slice a5 n5 c5) (.slice d5 k5 e5) (.bool s6) (.slice a6 n6 c6) (.slice d6 k6 e6)
      rw [hwf]
      have hfx : QC (mk (hidB X b 3) wf) (.agg #[.bool s5, .slice a5 n5 c5, .slice d5 k5 e5]) x := QC.mono _ _ _ _ q4 (mkx QC.mono hq5 hE6)
      have hfy : QC (mk (hidB X b 3) wf) (.agg #[.bool s6, .slice a6 n6 c6, .slice d6 k6 e6]) y := QC.mono _ _ _ _ q4 hq6
      have q5 := q2 (b + 1 + 1) _ _ (by omega) (by omega) ((b2.ext0 (hEd.trans hE5)).ext0 hE6)
      clear e00 e01 e02 e10 e11 e12 g00 g01 g02 g10 g11 g12 fr0 fr1 fr2 fr3 fr4 fr5 k00 k01 k02 k10 k11 k12 hwf
      go_wp2_with fail
      go_meet
      exact ⟨_, _, _, _, _, _, _, _, _, _, _, _, _, _, q0, q1, q5, hfx, hfy, q3⟩
  case rest =>
    clear k00 k01 k02 k10 k11 k12 b0 b1 b2 hu1 hv1 hud hvd hXd hEd hW
    obtain ⟨s3, a3, n3, c3, d3, k3, e3, s4, a4, n4, c4, d4, k4, e4, b0, b1, b2, hx, hy, hE1⟩ := hcut
    have hzz : w.heap.size + 3 <= wc.heap.size := by have := b2.lt; omega
    obtain ⟨hxz, hxm, hxdn⟩ := hx.num
    obtain ⟨hyz, hym, hydn⟩ := hy.num
    have hXc : HX (hidB X b 3) wc := hX.boxes' hE1 (by have := hzz; omega) hzz
    have k00 := b0.cell 0 rfl
    have k01 := b0.cell 1 rfl
    have k02 := b0.cell 2 rfl
    have k10 := b1.cell 0 rfl
    have k11 := b1.cell 1 rfl
    have k12 := b1.cell 2 rfl
    have hEd : Ext wc wc.drew := (ExtX.refl wc).drew
    have hXd : HX (hidB X b 3) wc.drew := hXc
    have hxd : QC (mk (hidB X b 3) wc.drew) (.agg #[.bool s3, .slice a3 n3 c3, .slice d3 k3 e3]) x := hx
    have hyd : QC (mk (hidB X b 3) wc.drew) (.agg #[.bool s4, .slice a4 n4 c4, .slice d4 k4 e4]) y := hy
    have hxzd : ZC (mk (hidB X b 3) wc.drew) (.agg #[.bool s3, .slice a3 n3 c3]) x.num := hxz
    have hyzd : ZC (mk (hidB X b 3) wc.drew) (.agg #[.bool s4, .slice a4 n4 c4]) y.num := hyz
    have bxn : lg x.num.natAbs <= 549755813888 := Nat.le_trans (Nat.le_trans (hq_num x) hlx.out) (by omega)
    have byn : lg y.num.natAbs <= 549755813888 := Nat.le_trans (Nat.le_trans (hq_num y) hly.out) (by omega)
    have bxd : lg x.den <= 549755813888 := Nat.le_trans (Nat.le_trans (hq_den x) hlx.out) (by omega)
    have byd : lg y.den <= 549755813888 := Nat.le_trans (Nat.le_trans (hq_den y) hly.out) (by omega)
    have bp1 : lg (x.num * (y.den : Int)).natAbs <= 274877906944 := by rw [Int.natAbs_mul, Int.natAbs_natCast]; have := lg_mul x.num.natAbs y.den; have := hq_num x; have := hq_den y; have := hlx.out; have := hly.out; omega
    have bp2 : lg (y.num * (x.den : Int)).natAbs <= 274877906944 := by rw [Int.natAbs_mul, Int.natAbs_natCast]; have := lg_mul y.num.natAbs x.den; have := hq_num y; have := hq_den x; have := hlx.out; have := hly.out; omega
    have bdd : lg (x.den * y.den) <= 274877906944 := by have := lg_mul x.den y.den; have := hq_den x; have := hq_den y; have := hlx.out; have := hly.out; omega
    have bnn : lg (x.num * y.num).natAbs <= 274877906944 := by rw [Int.natAbs_mul]; have := lg_mul x.num.natAbs y.num.natAbs; have := hq_num x; have := hq_num y; have := hlx.out; have := hly.out; omega
    have bd0 : 0 < x.den * y.den := Nat.mul_pos x.den_pos y.den_pos
    have hB := hid (And.intro b0 b1)
    have hS : Hid (∀ W', Ext wc.drew W' -> W'.cell? ⟨b, 0, none⟩ = some (.bool s3) /\ W'.cell? ⟨b, 1, none⟩ = some (.slice a3 n3 c3) /\ W'.cell? ⟨b, 2, none⟩ = some (.slice d3 k3 e3) /\ W'.cell? ⟨b + 1, 0, none⟩ = some (.bool s4) /\ W'.cell? ⟨b + 1, 1, none⟩ = some (.slice a4 n4 c4) /\ W'.cell? ⟨b + 1, 2, none⟩ = some (.slice d4 k4 e4)) :=
      hid fun W' h => ⟨(b0.ext0 (hEd.trans h)).cell 0 rfl, (b0.ext0 (hEd.trans h)).cell 1 rfl, (b0.ext0 (hEd.trans h)).cell 2 rfl, (b1.ext0 (hEd.trans h)).cell 0 rfl, (b1.ext0 (hEd.trans h)).cell 1 rfl, (b1.ext0 (hEd.trans h)).cell 2 rfl⟩
    have bqx : hq x <= 549755813888 := Nat.le_trans hlx.out (by decide)
    have bqy : hq y <= 549755813888 := Nat.le_trans hly.out (by decide)
    have cxn : lg x.num.natAbs <= 274877906944 := Nat.le_trans (Nat.le_trans (hq_num x) hlx.out) (by omega)
    have cyn : lg y.num.natAbs <= 274877906944 := Nat.le_trans (Nat.le_trans (hq_num y) hly.out) (by omega)
    have cxd : lg (x.den : Int).natAbs <= 274877906944 := Nat.le_trans (Nat.le_trans (hq_den x) hlx.out) (by omega)
    have cyd : lg (y.den : Int).natAbs <= 274877906944 := Nat.le_trans (Nat.le_trans (hq_den y) hly.out) (by omega)
    have cdd : lg ((x.den : Int) * (y.den : Int)).natAbs <= 274877906944 := by rw [<- Int.natCast_mul, Int.natAbs_natCast]; exact bdd
    have cd0 : (x.den : Int) * (y.den : Int) ≠ 0 := Int.mul_ne_zero (by have := x.den_nz; omega) (by have := y.den_nz; omega)
    have csum : lg (x.num * (y.den : Int) + y.num * (x.den : Int)).natAbs <= 274877906944 := by
      have h1 := lg_mono (Int.natAbs_add_le (x.num * (y.den : Int)) (y.num * (x.den : Int)))
      have h2 := lg_add (x.num * (y.den : Int)).natAbs (y.num * (x.den : Int)).natAbs
      have h3 : lg (x.num * (y.den : Int)).natAbs <= 137438953472 := by rw [Int.natAbs_mul, Int.natAbs_natCast]; have := lg_mul x.num.natAbs y.den; have := hq_num x; have := hq_den y; have := hlx.out; have := hly.out; omega
      have h4 : lg (y.num * (x.den : Int)).natAbs <= 137438953472 := by rw [Int.natAbs_mul, Int.natAbs_natCast]; have := lg_mul y.num.natAbs x.den; have := hq_num y; have := hq_den x; have := hlx.out; have := hly.out; omega
      omega
    have hfin : Hid (((x.num * (y.den : Int) + y.num * (x.den : Int) : Int) : Rat) / (((x.den : Int) * (y.den : Int) : Int) : Rat) = x + y) := hid (by
      rw [<- Int.natCast_mul, Rat.intCast_natCast, <- Rat.mkRat_eq_div]; exact (Rat.add_def' x y).symm)
    go_wp2_with fail
    go_region_held3 (fun w' => w'.cell? ⟨b, 0, none⟩ = some (.bool s3) /\ w'.cell? ⟨b, 1, none⟩ = some (.slice a3 n3 c3) /\ w'.cell? ⟨b, 2, none⟩ = some (.slice d3 k3 e3) /\ w'.cell? ⟨b + 1, 0, none⟩ = some (.bool s4) /\ w'.cell? ⟨b + 1, 1, none⟩ = some (.slice a4 n4 c4) /\ w'.cell? ⟨b + 1, 2, none⟩ = some (.slice d4 k4 e4))
      (first | exact hS.out _ t1 | exact hS.out _ t2 | exact hS.out _ t3 | exact hS.out _ t4 | exact hS.out _ t5 | exact hS.out _ t6 | exact hS.out _ t7 | exact hS.out _ t8 | exact hS.out _ t9 | exact ⟨((hB.out.1.ext0 (hEd.trans t9)).ext (bb2.set3 _ _ _).2 (ob_other (by omega))).cell 0 rfl, ((hB.out.1.ext0 (hEd.trans t9)).ext (bb2.set3 _ _ _).2 (ob_other (by omega))).cell 1 rfl, ((hB.out.1.ext0 (hEd.trans t9)).ext (bb2.set3 _ _ _).2 (ob_other (by omega))).cell 2 rfl, ((hB.out.2.ext0 (hEd.trans t9)).ext (bb2.set3 _ _ _).2 (ob_other (by omega))).cell 0 rfl, ((hB.out.2.ext0 (hEd.trans t9)).ext (bb2.set3 _ _ _).2 (ob_other (by omega))).cell 1 rfl, ((hB.out.2.ext0 (hEd.trans t9)).ext (bb2.set3 _ _ _).2 (ob_other (by omega))).cell 2 rfl⟩ | go_keep)
      (first | (go_at_call 54; (with_reducible refine (rqden (hidB X b 3) wc.drew _ y hXd hyd bqy).mono ?_); rintro ee w5 ⟨t1, u5, rfl, hu5⟩; have hX5 := HX.ext hXd t1; have hx5 := mkx ZC.mono hxzd t1) | (go_at_call 53; (with_reducible refine (rimul (hidB X b 3) w5 _ _ x.num (y.den : Int) hX5 (hx5.zv (Nat.le_trans cxn (by decide))) (hu5.zv (Nat.le_trans cyd (by decide))) cxn cyd).mono ?_); rintro ee w6 ⟨hE6, u6, rfl, hu6⟩; have t2 := t1.trans hE6; have hX6 := HX.ext hXd t2; have hx6 := mkx QC.mono hxd t2) | (go_at_call 54; (with_reducible refine (rqden (hidB X b 3) w6 _ x hX6 hx6 bqx).mono ?_); rintro ee w7 ⟨hE7, u7, rfl, hu7⟩; have t3 := t2.trans hE7; have hX7 := HX.ext hXd t3; have hy7 := mkx ZC.mono hyzd t3) | (go_at_call 53; (with_reducible refine (rimul (hidB X b 3) w7 _ _ y.num (x.den : Int) hX7 (hy7.zv (Nat.le_trans cyn (by decide))) (hu7.zv (Nat.le_trans cxd (by decide))) cyn cxd).mono ?_); rintro ee w8 ⟨hE8, u8, rfl, hu8⟩; have t4 := t3.trans hE8; have hX8 := HX.ext hXd t4; have hz6 := mkx ZC.mono hu6 (hE7.trans hE8)) | (go_at_call 78; (with_reducible refine (riadd (hidB X b 3) w8 _ _ _ _ hX8 (hz6.zv (Nat.le_trans bp1 (by decide))) (hu8.zv (Nat.le_trans bp2 (by decide)))).mono ?_); rintro ee w9 ⟨hE9, u9, rfl, hu9⟩; have t5 := t4.trans hE9; have hX9 := HX.ext hXd t5; have hx9 := mkx QC.mono hxd t5) | (go_at_call 54; (with_reducible refine (rqden (hidB X b 3) w9 _ x hX9 hx9 bqx).mono ?_); rintro ee w10 ⟨hE10, u10, rfl, hu10⟩; have t6 := t5.trans hE10; have hX10 := HX.ext hXd t6; have hy10 := mkx QC.mono hyd t6) | (go_at_call 54; (with_reducible refine (rqden (hidB X b 3) w10 _ y hX10 hy10 bqy).mono ?_); rintro ee w11 ⟨hE11, u11, rfl, hu11⟩; have t7 := t6.trans hE11; have hX11 := HX.ext hXd t7; have hm10 := mkx ZC.mono hu10 hE11) | (go_at_call 53; (with_reducible refine (rimul (hidB X b 3) w11 _ _ (x.den : Int) (y.den : Int) hX11 (hm10.zv (Nat.le_trans cxd (by decide))) (hu11.zv (Nat.le_trans cyd (by decide))) cxd cyd).mono ?_); rintro ee w12 ⟨hE12, u12, rfl, hu12⟩; have t8 := t7.trans hE12; have hX12 := HX.ext hXd t8; have hz9 := mkx ZC.mono hu9 (hE10.trans (hE11.trans hE12))) | (go_at_call 52; (with_reducible refine (rqover (hidB X b 3) w12 _ _ _ _ hX12 hz9 hu12 csum cdd cd0).mono ?_); rintro ee w13 ⟨hE13, u13, rfl, hu13⟩; have t9 := t8.trans hE13; obtain ⟨s13, a13, n13, c13, d13, k13, e13, rfl⟩ := hu13.shape; have bb2 := b2.ext0 (hEd.trans t9); have g0 := bb2.cell 0 rfl; have g1 := bb2.cell 1 rfl; have g2 := bb2.cell 2 rfl; have f0 := bb2.frozen 0; have f1 := bb2.frozen 1; have f2 := bb2.frozen 2))
    rw [hfin.out] at hu13
    obtain ⟨r1, r2⟩ := bb2.set3 (.bool s13) (.slice a13 n13 c13) (.slice d13 k13 e13)
    have h7 := QC.mono _ _ _ _ le_unbox (QC.mono _ _ _ _ (le_store r2 (by omega) (by omega)) hu13)
    have hEf : Ext w _ := ExtX.box (hE1.trans (hEd.trans t9)) r2 (by omega)
    clear g0 g1 g2 f0 f1 f2 k00 k01 k02 k10 k11 k12 hS hB
    go_wp2_with fail
    exact bodyPost_ret (results_box rfl rfl stRat r1 rfl) rfl ⟨hEf, _, rfl, h7⟩
set_option maxRecDepth 100000 in
set_option maxHeartbeats 1600000 in
theorem rqmul (X : Nat -> Bool) (w : World) (u v : Value) (x y : Rat) (hX : HX X w) (hu : QV (mk X w) u x) (hv : QV (mk X w) v y) : Calls Tryz.prog 19 #[u, v] w (ROut X w QC (x * y)) := by
  have hlx := hid hu.hq
  have hly := hid hv.hq
  obtain ⟨s1, a1, n1, c1, d1, k1, e1, rfl⟩ := hu.shape
  obtain ⟨s2, a2, n2, c2, d2, k2, e2, rfl⟩ := hv.shape
  obtain ⟨W, hW, hE, b0, b1, b2, hz⟩ := boxes3 w #[.bool s1, .slice a1 n1 c1, .slice d1 k1 e1] #[.bool s2, .slice a2 n2 c2, .slice d2 k2 e2] #[.bool false, .slice none 0 0, .slice none 0 0] 34 34 34
  have hXW : HX (hidB X w.heap.size 3) W := hX.boxes hz
  have hu1 := QV.mono _ _ _ _ (le_boxes (nb := 3) hE) hu
  have hv1 := QV.mono _ _ _ _ (le_boxes (nb := 3) hE) hv
  obtain ⟨b, hb⟩ : ∃ b, w.heap.size = b := ⟨_, rfl⟩
  have hbw : w.heap.size <= b := by omega
  rw [hb] at b0 b1 b2 hz hXW hu1 hv1
  have hEd : Ext W W.drew := (ExtX.refl W).drew
  have hXd : HX (hidB X b 3) W.drew := hXW
  have hud : QV (mk (hidB X b 3) W.drew) (.agg #[.bool s1, .slice a1 n1 c1, .slice d1 k1 e1]) x := hu1
  have hvd : QV (mk (hidB X b 3) W.drew) (.agg #[.bool s2, .slice a2 n2 c2, .slice d2 k2 e2]) y := hv1
  have k00 := b0.cell 0 rfl
  have k01 := b0.cell 1 rfl
  have k02 := b0.cell 2 rfl
  have k10 := b1.cell 0 rfl
  have k11 := b1.cell 1 rfl
  have k12 := b1.cell 2 rfl
  clear hu hv
  go_enter Tryz.func19, Tryz.ntmps19
  go_upto_region 1 with (fail)
  go_cut [] from 5 to 8 (fun wx => ∃ s3 a3 n3 c3 d3 k3 e3 s4 a4 n4 c4 d4 k4 e4, Bx wx b #[.bool s3, .slice a3 n3 c3, .slice d3 k3 e3] 34 /\ Bx wx (b + 1) #[.bool s4, .slice a4 n4 c4, .slice d4 k4 e4] 34 /\ Bx wx (b + 1 + 1) #[.bool false, .slice none 0 0, .slice none 0 0] 34 /\ QC (mk (hidB X b 3) wx) (.agg #[.bool s3, .slice a3 n3 c3, .slice d3 k3 e3]) x /\ QC (mk (hidB X b 3) wx) (.agg #[.bool s4, .slice a4 n4 c4, .slice d4 k4 e4]) y /\ Ext w wx)
  case first =>
    go_region_with (first | (go_at_call 51; (with_reducible refine (rqtake (hidB X b 3) W.drew _ x hXd hud).mono ?_); rintro ee w5 ⟨hE5, u5, rfl, hq5⟩; obtain ⟨s5, a5, n5, c5, d5, k5, e5, rfl⟩ := hq5.shape; have bb0 := b0.ext0 (hEd.trans hE5); have bb1 := b1.ext0 (hEd.trans hE5); have e00 := bb0.cell 0 rfl; have e01 := bb0.cell 1 rfl; have e02 := bb0.cell 2 rfl; have e10 := bb1.cell 0 rfl; have e11 := bb1.cell 1 rfl; have e12 := bb1.cell 2 rfl) | (go_at_call 51; (with_reducible refine (rqtake (hidB X b 3) w5 _ y (HX.ext hXd hE5) (mkx QV.mono hvd hE5)).mono ?_); rintro ee w6 ⟨hE6, u6, rfl, hq6⟩; obtain ⟨s6, a6, n6, c6, d6, k6, e6, rfl⟩ := hq6.shape; have bb2 := bb0.ext0 hE6; have bb3 := bb1.ext0 hE6; have g00 := bb2.cell 0 rfl; have g01 := bb2.cell 1 rfl; have g02 := bb2.cell 2 rfl; have g10 := bb3.cell 0 rfl; have g11 := bb3.cell 1 rfl; have g12 := bb3.cell 2 rfl; have fr0 := bb2.frozen 0; have fr1 := bb2.frozen 1; have fr4 := bb2.frozen 2; have fr2 := bb3.frozen 0; have fr3 := bb3.frozen 1; have fr5 := bb3.frozen 2))
    all_goals
      obtain ⟨wf, hwf, q0, q1, q2, q3, q4⟩ := two_stores3 (X := X) (nb := 3) bb2 bb3 (hE.trans ((hEd.trans hE5).trans hE6)) hbw (by omega) (.bool s5) (.slice a5 n5 c5) (.slice d5 k5 e5) (.bool s6) (.slice a6 n6 c6) (.slice d6 k6 e6)
      rw [hwf]
      have hfx : QC (mk (hidB X b 3) wf) (.agg #[.bool s5, .slice a5 n5 c5, .slice d5 k5 e5]) x := QC.mono _ _ _ _ q4 (mkx QC.mono hq5 hE6)
      have hfy : QC (mk (hidB X b 3) wf) (.agg #[.bool s6, .slice a6 n6 c6, .slice d6 k6 e6]) y := QC.mono _ _ _ _ q4 hq6
      have q5 := q2 (b + 1 + 1) _ _ (by omega) (by omega) ((b2.ext0 (hEd.trans hE5)).ext0 hE6)
      clear e00 e01 e02 e10 e11 e12 g00 g01 g02 g10 g11 g12 fr0 fr1 fr2 fr3 fr4 fr5 k00 k01 k02 k10 k11 k12 hwf
      go_wp2_with fail
      go_meet
      exact ⟨_, _, _, _, _, _, _, _, _, _, _, _, _, _, q0, q1, q5, hfx, hfy, q3⟩
  case rest =>
    clear k00 k01 k02 k10 k11 k12 b0 b1 b2 hu1 hv1 hud hvd hXd hEd hW
    obtain ⟨s3, a3, n3, c3, d3, k3, e3, s4, a4, n4, c4, d4, k4, e4, b0, b1, b2, hx, hy, hE1⟩ := hcut
    have hzz : w.heap.size + 3 <= wc.heap.size := by have := b2.lt; omega
    obtain ⟨hxz, hxm, hxdn⟩ := hx.num
    obtain ⟨hyz, hym, hydn⟩ := hy.num
    have hXc : HX (hidB X b 3) wc := hX.boxes' hE1 (by have := hzz; omega) hzz
    have k00 := b0.cell 0 rfl
    have k01 := b0.cell 1 rfl
    have k02 := b0.cell 2 rfl
    have k10 := b1.cell 0 rfl
    have k11 := b1.cell 1 rfl
    have k12 := b1.cell 2 rfl
    have hEd : Ext wc wc.drew := (ExtX.refl wc).drew
    have hXd : HX (hidB X b 3) wc.drew := hXc
    have hxd : QC (mk (hidB X b 3) wc.drew) (.agg #[.bool s3, .slice a3 n3 c3, .slice d3 k3 e3]) x := hx
    have hyd : QC (mk (hidB X b 3) wc.drew) (.agg #[.bool s4, .slice a4 n4 c4, .slice d4 k4 e4]) y := hy
    have hxzd : ZC (mk (hidB X b 3) wc.drew) (.agg #[.bool s3, .slice a3 n3 c3]) x.num := hxz
    have hyzd : ZC (mk (hidB X b 3) wc.drew) (.agg #[.bool s4, .slice a4 n4 c4]) y.num := hyz
    have bxn : lg x.num.natAbs <= 549755813888 := Nat.le_trans (Nat.le_trans (hq_num x) hlx.out) (by omega)
    have byn : lg y.num.natAbs <= 549755813888 := Nat.le_trans (Nat.le_trans (hq_num y) hly.out) (by omega)
    have bxd : lg x.den <= 549755813888 := Nat.le_trans (Nat.le_trans (hq_den x) hlx.out) (by omega)
    have byd : lg y.den <= 549755813888 := Nat.le_trans (Nat.le_trans (hq_den y) hly.out) (by omega)
    have bp1 : lg (x.num * (y.den : Int)).natAbs <= 274877906944 := by rw [Int.natAbs_mul, Int.natAbs_natCast]; have := lg_mul x.num.natAbs y.den; have := hq_num x; have := hq_den y; have := hlx.out; have := hly.out; omega
    have bp2 : lg (y.num * (x.den : Int)).natAbs <= 274877906944 := by rw [Int.natAbs_mul, Int.natAbs_natCast]; have := lg_mul y.num.natAbs x.den; have := hq_num y; have := hq_den x; have := hlx.out; have := hly.out; omega
    have bdd : lg (x.den * y.den) <= 274877906944 := by have := lg_mul x.den y.den; have := hq_den x; have := hq_den y; have := hlx.out; have := hly.out; omega
    have bnn : lg (x.num * y.num).natAbs <= 274877906944 := by rw [Int.natAbs_mul]; have := lg_mul x.num.natAbs y.num.natAbs; have := hq_num x; have := hq_num y; have := hlx.out; have := hly.out; omega
    have bd0 : 0 < x.den * y.den := Nat.mul_pos x.den_pos y.den_pos
    have hB := hid (And.intro b0 b1)
    have hS : Hid (∀ W', Ext wc.drew W' -> W'.cell? ⟨b, 0, none⟩ = some (.bool s3) /\ W'.cell? ⟨b, 1, none⟩ = some (.slice a3 n3 c3) /\ W'.cell? ⟨b, 2, none⟩ = some (.slice d3 k3 e3) /\ W'.cell? ⟨b + 1, 0, none⟩ = some (.bool s4) /\ W'.cell? ⟨b + 1, 1, none⟩ = some (.slice a4 n4 c4) /\ W'.cell? ⟨b + 1, 2, none⟩ = some (.slice d4 k4 e4)) :=
      hid fun W' h => ⟨(b0.ext0 (hEd.trans h)).cell 0 rfl, (b0.ext0 (hEd.trans h)).cell 1 rfl, (b0.ext0 (hEd.trans h)).cell 2 rfl, (b1.ext0 (hEd.trans h)).cell 0 rfl, (b1.ext0 (hEd.trans h)).cell 1 rfl, (b1.ext0 (hEd.trans h)).cell 2 rfl⟩
    have bqx : hq x <= 549755813888 := Nat.le_trans hlx.out (by decide)
    have bqy : hq y <= 549755813888 := Nat.le_trans hly.out (by decide)
    have cxn : lg x.num.natAbs <= 274877906944 := Nat.le_trans (Nat.le_trans (hq_num x) hlx.out) (by omega)
    have cyn : lg y.num.natAbs <= 274877906944 := Nat.le_trans (Nat.le_trans (hq_num y) hly.out) (by omega)
    have cxd : lg (x.den : Int).natAbs <= 274877906944 := Nat.le_trans (Nat.le_trans (hq_den x) hlx.out) (by omega)
    have cyd : lg (y.den : Int).natAbs <= 274877906944 := Nat.le_trans (Nat.le_trans (hq_den y) hly.out) (by omega)
    have cdd : lg ((x.den : Int) * (y.den : Int)).natAbs <= 274877906944 := by rw [<- Int.natCast_mul, Int.natAbs_natCast]; exact bdd
    have cd0 : (x.den : Int) * (y.den : Int) ≠ 0 := Int.mul_ne_zero (by have := x.den_nz; omega) (by have := y.den_nz; omega)
    have hfin : Hid (((x.num * y.num : Int) : Rat) / (((x.den : Int) * (y.den : Int) : Int) : Rat) = x * y) := hid (by
      rw [<- Int.natCast_mul, Rat.intCast_natCast, <- Rat.mkRat_eq_div]; exact (Rat.mul_def' x y).symm)
    go_wp2_with fail
    go_region_held3 (fun w' => w'.cell? ⟨b, 0, none⟩ = some (.bool s3) /\ w'.cell? ⟨b, 1, none⟩ = some (.slice a3 n3 c3) /\ w'.cell? ⟨b, 2, none⟩ = some (.slice d3 k3 e3) /\ w'.cell? ⟨b + 1, 0, none⟩ = some (.bool s4) /\ w'.cell? ⟨b + 1, 1, none⟩ = some (.slice a4 n4 c4) /\ w'.cell? ⟨b + 1, 2, none⟩ = some (.slice d4 k4 e4))
      (first | exact hS.out _ t1 | exact hS.out _ t2 | exact hS.out _ t3 | exact hS.out _ t4 | exact hS.out _ t5 | exact ⟨((hB.out.1.ext0 (hEd.trans t5)).ext (bb2.set3 _ _ _).2 (ob_other (by omega))).cell 0 rfl, ((hB.out.1.ext0 (hEd.trans t5)).ext (bb2.set3 _ _ _).2 (ob_other (by omega))).cell 1 rfl, ((hB.out.1.ext0 (hEd.trans t5)).ext (bb2.set3 _ _ _).2 (ob_other (by omega))).cell 2 rfl, ((hB.out.2.ext0 (hEd.trans t5)).ext (bb2.set3 _ _ _).2 (ob_other (by omega))).cell 0 rfl, ((hB.out.2.ext0 (hEd.trans t5)).ext (bb2.set3 _ _ _).2 (ob_other (by omega))).cell 1 rfl, ((hB.out.2.ext0 (hEd.trans t5)).ext (bb2.set3 _ _ _).2 (ob_other (by omega))).cell 2 rfl⟩ | go_keep)
      (first | (go_at_call 53; (with_reducible refine (rimul (hidB X b 3) wc.drew _ _ x.num y.num hXd (hxzd.zv (Nat.le_trans cxn (by decide))) (hyzd.zv (Nat.le_trans cyn (by decide))) cxn cyn).mono ?_); rintro ee w5 ⟨t1, u5, rfl, hu5⟩; have hX5 := HX.ext hXd t1; have hx5 := mkx QC.mono hxd t1) | (go_at_call 54; (with_reducible refine (rqden (hidB X b 3) w5 _ x hX5 hx5 bqx).mono ?_); rintro ee w6 ⟨hE6, u6, rfl, hu6⟩; have t2 := t1.trans hE6; have hX6 := HX.ext hXd t2; have hy6 := mkx QC.mono hyd t2) | (go_at_call 54; (with_reducible refine (rqden (hidB X b 3) w6 _ y hX6 hy6 bqy).mono ?_); rintro ee w7 ⟨hE7, u7, rfl, hu7⟩; have t3 := t2.trans hE7; have hX7 := HX.ext hXd t3; have hm6 := mkx ZC.mono hu6 hE7) | (go_at_call 53; (with_reducible refine (rimul (hidB X b 3) w7 _ _ (x.den : Int) (y.den : Int) hX7 (hm6.zv (Nat.le_trans cxd (by decide))) (hu7.zv (Nat.le_trans cyd (by decide))) cxd cyd).mono ?_); rintro ee w8 ⟨hE8, u8, rfl, hu8⟩; have t4 := t3.trans hE8; have hX8 := HX.ext hXd t4; have hz5 := mkx ZC.mono hu5 (hE6.trans (hE7.trans hE8))) | (go_at_call 52; (with_reducible refine (rqover (hidB X b 3) w8 _ _ _ _ hX8 hz5 hu8 bnn cdd cd0).mono ?_); rintro ee w9 ⟨hE9, u9, rfl, hu9⟩; have t5 := t4.trans hE9; obtain ⟨s13, a13, n13, c13, d13, k13, e13, rfl⟩ := hu9.shape; have bb2 := b2.ext0 (hEd.trans t5); have g0 := bb2.cell 0 rfl; have g1 := bb2.cell 1 rfl; have g2 := bb2.cell 2 rfl; have f0 := bb2.frozen 0; have f1 := bb2.frozen 1; have f2 := bb2.frozen 2))
    rw [hfin.out] at hu9
    obtain ⟨r1, r2⟩ := bb2.set3 (.bool s13) (.slice a13 n13 c13) (.slice d13 k13 e13)
    have h7 := QC.mono _ _ _ _ le_unbox (QC.mono _ _ _ _ (le_store r2 (by omega) (by omega)) hu9)
    have hEf : Ext w _ := ExtX.box (hE1.trans (hEd.trans t5)) r2 (by omega)
    clear g0 g1 g2 f0 f1 f2 k00 k01 k02 k10 k11 k12 hS hB
    go_wp2_with fail
    exact bodyPost_ret (results_box rfl rfl stRat r1 rfl) rfl ⟨hEf, _, rfl, h7⟩
set_option maxRecDepth 100000 in
set_option maxHeartbeats 1600000 in
theorem rqquo (X : Nat -> Bool) (w : World) (u v : Value) (x y : Rat) (hX : HX X w) (hu : QV (mk X w) u x) (hv : QV (mk X w) v y) (hy0 : y ≠ 0) : Calls Tryz.prog 163 #[u, v] w (ROut X w QC (x / y)) := by
  have hlx := hid hu.hq
  have hly := hid hv.hq
  obtain ⟨s1, a1, n1, c1, d1, k1, e1, rfl⟩ := hu.shape
  obtain ⟨s2, a2, n2, c2, d2, k2, e2, rfl⟩ := hv.shape
  obtain ⟨W, hW, hE, b0, b1, b2, hz⟩ := boxes3 w #[.bool s1, .slice a1 n1 c1, .slice d1 k1 e1] #[.bool s2, .slice a2 n2 c2, .slice d2 k2 e2] #[.bool false, .slice none 0 0, .slice none 0 0] 34 34 34
  have hXW : HX (hidB X w.heap.size 3) W := hX.boxes hz
  have hu1 := QV.mono _ _ _ _ (le_boxes (nb := 3) hE) hu
  have hv1 := QV.mono _ _ _ _ (le_boxes (nb := 3) hE) hv
  obtain ⟨b, hb⟩ : ∃ b, w.heap.size = b := ⟨_, rfl⟩
  have hbw : w.heap.size <= b := by omega
  rw [hb] at b0 b1 b2 hz hXW hu1 hv1
  have hEd : Ext W W.drew := (ExtX.refl W).drew
  have hXd : HX (hidB X b 3) W.drew := hXW
  have hud : QV (mk (hidB X b 3) W.drew) (.agg #[.bool s1, .slice a1 n1 c1, .slice d1 k1 e1]) x := hu1
  have hvd : QV (mk (hidB X b 3) W.drew) (.agg #[.bool s2, .slice a2 n2 c2, .slice d2 k2 e2]) y := hv1
  have k00 := b0.cell 0 rfl
  have k01 := b0.cell 1 rfl
  have k02 := b0.cell 2 rfl
  have k10 := b1.cell 0 rfl
  have k11 := b1.cell 1 rfl
  have k12 := b1.cell 2 rfl
  clear hu hv
  go_enter Tryz.func163, Tryz.ntmps163
  go_upto_region 1 with (fail)
  go_cut [] from 5 to 8 (fun wx => ∃ s3 a3 n3 c3 d3 k3 e3 s4 a4 n4 c4 d4 k4 e4, Bx wx b #[.bool s3, .slice a3 n3 c3, .slice d3 k3 e3] 34 /\ Bx wx (b + 1) #[.bool s4, .slice a4 n4 c4, .slice d4 k4 e4] 34 /\ Bx wx (b + 1 + 1) #[.bool false, .slice none 0 0, .slice none 0 0] 34 /\ QC (mk (hidB X b 3) wx) (.agg #[.bool s3, .slice a3 n3 c3, .slice d3 k3 e3]) x /\ QC (mk (hidB X b 3) wx) (.agg #[.bool s4, .slice a4 n4 c4, .slice d4 k4 e4]) y /\ Ext w wx)
  case first =>
    go_region_with (first | (go_at_call 51; (with_reducible refine (rqtake (hidB X b 3) W.drew _ x hXd hud).mono ?_); rintro ee w5 ⟨hE5, u5, rfl, hq5⟩; obtain ⟨s5, a5, n5, c5, d5, k5, e5, rfl⟩ := hq5.shape; have bb0 := b0.ext0 (hEd.trans hE5); have bb1 := b1.ext0 (hEd.trans hE5); have e00 := bb0.cell 0 rfl; have e01 := bb0.cell 1 rfl; have e02 := bb0.cell 2 rfl; have e10 := bb1.cell 0 rfl; have e11 := bb1.cell 1 rfl; have e12 := bb1.cell 2 rfl) | (go_at_call 51; (with_reducible refine (rqtake (hidB X b 3) w5 _ y (HX.ext hXd hE5) (mkx QV.mono hvd hE5)).mono ?_); rintro ee w6 ⟨hE6, u6, rfl, hq6⟩; obtain ⟨s6, a6, n6, c6, d6, k6, e6, rfl⟩ := hq6.shape; have bb2 := bb0.ext0 hE6; have bb3 := bb1.ext0 hE6; have g00 := bb2.cell 0 rfl; have g01 := bb2.cell 1 rfl; have g02 := bb2.cell 2 rfl; have g10 := bb3.cell 0 rfl; have g11 := bb3.cell 1 rfl; have g12 := bb3.cell 2 rfl; have fr0 := bb2.frozen 0; have fr1 := bb2.frozen 1; have fr4 := bb2.frozen 2; have fr2 := bb3.frozen 0; have fr3 := bb3.frozen 1; have fr5 := bb3.frozen 2))
    all_goals
      obtain ⟨wf, hwf, q0, q1, q2, q3, q4⟩ := two_stores3 (X := X) (nb := 3) bb2 bb3 (hE.trans ((hEd.trans hE5).trans hE6)) hbw (by omega) (.bool s5) (.slice a5 n5 c5) (.slice d5 k5 e5) (.bool s6) (.slice a6 n6 c6) (.slice d6 k6 e6)
      rw [hwf]
      have hfx : QC (mk (hidB X b 3) wf) (.agg #[.bool s5, .slice a5 n5 c5, .slice d5 k5 e5]) x := QC.mono _ _ _ _ q4 (mkx QC.mono hq5 hE6)
      have hfy : QC (mk (hidB X b 3) wf) (.agg #[.bool s6, .slice a6 n6 c6, .slice d6 k6 e6]) y := QC.mono _ _ _ _ q4 hq6
      have q5 := q2 (b + 1 + 1) _ _ (by omega) (by omega) ((b2.ext0 (hEd.trans hE5)).ext0 hE6)
      clear e00 e01 e02 e10 e11 e12 g00 g01 g02 g10 g11 g12 fr0 fr1 fr2 fr3 fr4 fr5 k00 k01 k02 k10 k11 k12 hwf
      go_wp2_with fail
      go_meet
      exact ⟨_, _, _, _, _, _, _, _, _, _, _, _, _, _, q0, q1, q5, hfx, hfy, q3⟩
  case rest =>
    clear k00 k01 k02 k10 k11 k12 b0 b1 b2 hu1 hv1 hud hvd hXd hEd hW
    obtain ⟨s3, a3, n3, c3, d3, k3, e3, s4, a4, n4, c4, d4, k4, e4, b0, b1, b2, hx, hy, hE1⟩ := hcut
    have hzz : w.heap.size + 3 <= wc.heap.size := by have := b2.lt; omega
    obtain ⟨hxz, hxm, hxdn⟩ := hx.num
    obtain ⟨hyz, hym, hydn⟩ := hy.num
    have hXc : HX (hidB X b 3) wc := hX.boxes' hE1 (by have := hzz; omega) hzz
    have k00 := b0.cell 0 rfl
    have k01 := b0.cell 1 rfl
    have k02 := b0.cell 2 rfl
    have k10 := b1.cell 0 rfl
    have k11 := b1.cell 1 rfl
    have k12 := b1.cell 2 rfl
    have hEd : Ext wc wc.drew := (ExtX.refl wc).drew
    have hXd : HX (hidB X b 3) wc.drew := hXc
    have hxd : QC (mk (hidB X b 3) wc.drew) (.agg #[.bool s3, .slice a3 n3 c3, .slice d3 k3 e3]) x := hx
    have hyd : QC (mk (hidB X b 3) wc.drew) (.agg #[.bool s4, .slice a4 n4 c4, .slice d4 k4 e4]) y := hy
    have hxzd : ZC (mk (hidB X b 3) wc.drew) (.agg #[.bool s3, .slice a3 n3 c3]) x.num := hxz
    have hyzd : ZC (mk (hidB X b 3) wc.drew) (.agg #[.bool s4, .slice a4 n4 c4]) y.num := hyz
    have bxn : lg x.num.natAbs <= 549755813888 := Nat.le_trans (Nat.le_trans (hq_num x) hlx.out) (by omega)
    have byn : lg y.num.natAbs <= 549755813888 := Nat.le_trans (Nat.le_trans (hq_num y) hly.out) (by omega)
    have bxd : lg x.den <= 549755813888 := Nat.le_trans (Nat.le_trans (hq_den x) hlx.out) (by omega)
    have byd : lg y.den <= 549755813888 := Nat.le_trans (Nat.le_trans (hq_den y) hly.out) (by omega)
    have bp1 : lg (x.num * (y.den : Int)).natAbs <= 274877906944 := by rw [Int.natAbs_mul, Int.natAbs_natCast]; have := lg_mul x.num.natAbs y.den; have := hq_num x; have := hq_den y; have := hlx.out; have := hly.out; omega
    have bp2 : lg (y.num * (x.den : Int)).natAbs <= 274877906944 := by rw [Int.natAbs_mul, Int.natAbs_natCast]; have := lg_mul y.num.natAbs x.den; have := hq_num y; have := hq_den x; have := hlx.out; have := hly.out; omega
    have bdd : lg (x.den * y.den) <= 274877906944 := by have := lg_mul x.den y.den; have := hq_den x; have := hq_den y; have := hlx.out; have := hly.out; omega
    have bnn : lg (x.num * y.num).natAbs <= 274877906944 := by rw [Int.natAbs_mul]; have := lg_mul x.num.natAbs y.num.natAbs; have := hq_num x; have := hq_num y; have := hlx.out; have := hly.out; omega
    have bd0 : 0 < x.den * y.den := Nat.mul_pos x.den_pos y.den_pos
    have hB := hid (And.intro b0 b1)
    have hS : Hid (∀ W', Ext wc.drew W' -> W'.cell? ⟨b, 0, none⟩ = some (.bool s3) /\ W'.cell? ⟨b, 1, none⟩ = some (.slice a3 n3 c3) /\ W'.cell? ⟨b, 2, none⟩ = some (.slice d3 k3 e3) /\ W'.cell? ⟨b + 1, 0, none⟩ = some (.bool s4) /\ W'.cell? ⟨b + 1, 1, none⟩ = some (.slice a4 n4 c4) /\ W'.cell? ⟨b + 1, 2, none⟩ = some (.slice d4 k4 e4)) :=
      hid fun W' h => ⟨(b0.ext0 (hEd.trans h)).cell 0 rfl, (b0.ext0 (hEd.trans h)).cell 1 rfl, (b0.ext0 (hEd.trans h)).cell 2 rfl, (b1.ext0 (hEd.trans h)).cell 0 rfl, (b1.ext0 (hEd.trans h)).cell 1 rfl, (b1.ext0 (hEd.trans h)).cell 2 rfl⟩
    have bqx : hq x <= 549755813888 := Nat.le_trans hlx.out (by decide)
    have bqy : hq y <= 549755813888 := Nat.le_trans hly.out (by decide)
    have cxn : lg x.num.natAbs <= 274877906944 := Nat.le_trans (Nat.le_trans (hq_num x) hlx.out) (by omega)
    have cyn : lg y.num.natAbs <= 274877906944 := Nat.le_trans (Nat.le_trans (hq_num y) hly.out) (by omega)
    have cxd : lg (x.den : Int).natAbs <= 274877906944 := Nat.le_trans (Nat.le_trans (hq_den x) hlx.out) (by omega)
    have cyd : lg (y.den : Int).natAbs <= 274877906944 := Nat.le_trans (Nat.le_trans (hq_den y) hly.out) (by omega)
    have cdd : lg ((x.den : Int) * (y.den : Int)).natAbs <= 274877906944 := by rw [<- Int.natCast_mul, Int.natAbs_natCast]; exact bdd
    have cd0 : (x.den : Int) * (y.den : Int) ≠ 0 := Int.mul_ne_zero (by have := x.den_nz; omega) (by have := y.den_nz; omega)
    have cp2 : lg ((x.den : Int) * y.num).natAbs <= 274877906944 := by rw [Int.mul_comm]; exact bp2
    have cq0 : (x.den : Int) * y.num ≠ 0 := Int.mul_ne_zero (by have := x.den_nz; omega) (fun h => hy0 (Rat.num_eq_zero.1 h))
    have hfin : Hid (((x.num * (y.den : Int) : Int) : Rat) / (((x.den : Int) * y.num : Int) : Rat) = x / y) := hid (by rw [Int.mul_comm (x.den : Int)]; exact div_eq x y)
    go_wp2_with fail
    go_region_held3 (fun w' => w'.cell? ⟨b, 0, none⟩ = some (.bool s3) /\ w'.cell? ⟨b, 1, none⟩ = some (.slice a3 n3 c3) /\ w'.cell? ⟨b, 2, none⟩ = some (.slice d3 k3 e3) /\ w'.cell? ⟨b + 1, 0, none⟩ = some (.bool s4) /\ w'.cell? ⟨b + 1, 1, none⟩ = some (.slice a4 n4 c4) /\ w'.cell? ⟨b + 1, 2, none⟩ = some (.slice d4 k4 e4))
      (first | exact hS.out _ t1 | exact hS.out _ t2 | exact hS.out _ t3 | exact hS.out _ t4 | exact hS.out _ t5 | exact ⟨((hB.out.1.ext0 (hEd.trans t5)).ext (bb2.set3 _ _ _).2 (ob_other (by omega))).cell 0 rfl, ((hB.out.1.ext0 (hEd.trans t5)).ext (bb2.set3 _ _ _).2 (ob_other (by omega))).cell 1 rfl, ((hB.out.1.ext0 (hEd.trans t5)).ext (bb2.set3 _ _ _).2 (ob_other (by omega))).cell 2 rfl, ((hB.out.2.ext0 (hEd.trans t5)).ext (bb2.set3 _ _ _).2 (ob_other (by omega))).cell 0 rfl, ((hB.out.2.ext0 (hEd.trans t5)).ext (bb2.set3 _ _ _).2 (ob_other (by omega))).cell 1 rfl, ((hB.out.2.ext0 (hEd.trans t5)).ext (bb2.set3 _ _ _).2 (ob_other (by omega))).cell 2 rfl⟩ | go_keep)
      (first | (go_at_call 54; (with_reducible refine (rqden (hidB X b 3) wc.drew _ y hXd hyd bqy).mono ?_); rintro ee w5 ⟨t1, u5, rfl, hu5⟩; have hX5 := HX.ext hXd t1; have hx5 := mkx ZC.mono hxzd t1) | (go_at_call 53; (with_reducible refine (rimul (hidB X b 3) w5 _ _ x.num (y.den : Int) hX5 (hx5.zv (Nat.le_trans cxn (by decide))) (hu5.zv (Nat.le_trans cyd (by decide))) cxn cyd).mono ?_); rintro ee w6 ⟨hE6, u6, rfl, hu6⟩; have t2 := t1.trans hE6; have hX6 := HX.ext hXd t2; have hx6 := mkx QC.mono hxd t2) | (go_at_call 54; (with_reducible refine (rqden (hidB X b 3) w6 _ x hX6 hx6 bqx).mono ?_); rintro ee w7 ⟨hE7, u7, rfl, hu7⟩; have t3 := t2.trans hE7; have hX7 := HX.ext hXd t3; have hy7 := mkx ZC.mono hyzd t3) | (go_at_call 53; (with_reducible refine (rimul (hidB X b 3) w7 _ _ (x.den : Int) y.num hX7 (hu7.zv (Nat.le_trans cxd (by decide))) (hy7.zv (Nat.le_trans cyn (by decide))) cxd cyn).mono ?_); rintro ee w8 ⟨hE8, u8, rfl, hu8⟩; have t4 := t3.trans hE8; have hX8 := HX.ext hXd t4; have hz6 := mkx ZC.mono hu6 (hE7.trans hE8)) | (go_at_call 52; (with_reducible refine (rqover (hidB X b 3) w8 _ _ _ _ hX8 hz6 hu8 bp1 cp2 cq0).mono ?_); rintro ee w9 ⟨hE9, u9, rfl, hu9⟩; have t5 := t4.trans hE9; obtain ⟨s13, a13, n13, c13, d13, k13, e13, rfl⟩ := hu9.shape; have bb2 := b2.ext0 (hEd.trans t5); have g0 := bb2.cell 0 rfl; have g1 := bb2.cell 1 rfl; have g2 := bb2.cell 2 rfl; have f0 := bb2.frozen 0; have f1 := bb2.frozen 1; have f2 := bb2.frozen 2))
    rw [hfin.out] at hu9
    obtain ⟨r1, r2⟩ := bb2.set3 (.bool s13) (.slice a13 n13 c13) (.slice d13 k13 e13)
    have h7 := QC.mono _ _ _ _ le_unbox (QC.mono _ _ _ _ (le_store r2 (by omega) (by omega)) hu9)
    have hEf : Ext w _ := ExtX.box (hE1.trans (hEd.trans t5)) r2 (by omega)
    clear g0 g1 g2 f0 f1 f2 k00 k01 k02 k10 k11 k12 hS hB
    go_wp2_with fail
    exact bodyPost_ret (results_box rfl rfl stRat r1 rfl) rfl ⟨hEf, _, rfl, h7⟩
end Go.Proofs.YthipmbmjodhiiaaGreat
namespace Go.Proofs.YthipmbmjodhiiaaGreat
open Go.RowKit Go.Rep Go.Lim
set_option maxRecDepth 100000 in
theorem rtimes (X : Nat -> Bool) (w : World) (u v : Value) (l : List Rat) (c : Rat) (hX : HX X w) (hu : RV (mk X w) u l) (hv : QV (mk X w) v c) (hl : l.length <= 1000000) : Calls Tryz.prog 162 #[u, v] w (ROut X w RC (l.map (· * c))) := by
  obtain ⟨ao, ca, rfl, hca, hsa0⟩ := hu
  have hha := hsa0.hd
  obtain ⟨s2, a2, n2, c2, d2, k2, e2, rfl⟩ := hv.shape
  obtain ⟨W, hW, hEW, b0, hz⟩ := boxes1 w #[.bool s2, .slice a2 n2 c2, .slice d2 k2 e2] 34
  have hXW : HX X W := hX.ext hEW
  have hsa := hsa0.mono QV.mono (mk_ext hEW)
  have hvW := mkx QV.mono hv hEW
  obtain ⟨b, hb⟩ : ∃ b, w.heap.size = b := ⟨_, rfl⟩
  rw [hb] at b0 hz
  obtain ⟨L, hL⟩ : ∃ L, l.map (· * c) = L := ⟨_, rfl⟩
  have hLl : L.length = l.length := by rw [<- hL]; simp
  have hLi := hid (show ∀ i (hi : i < l.length) (hi' : i < L.length), L[i] = l[i] * c from fun i hi hi' => by subst hL; simp)
  rw [hL]
  clear hL hsa0 hv
  go_enter Tryz.func162, Tryz.ntmps162
  go_wp2_with fail
  go_loopw [5, 6] (fun o cc wr => ∃ (i : Nat) (oo : Option Addr) (co : Nat), cc = .int .i64 i /\ o = .slice oo i co /\ i <= l.length /\ OL QC 3 X W.heap.size 34 wr oo co (L.take i) /\ Ext W wr) (fun _ cc _ => l.length - (intOf cc).toNat)
  case atStart => exact ⟨0, none, 0, rfl, rfl, Nat.zero_le _, OL.nil _ _ _ _ _ _, ExtX.refl _⟩
  case round =>
    obtain ⟨i, oo, co, rfl, rfl, hi, hO, hE⟩ := hrel
    have hXr : HX X wr := hXW.ext hE
    have hXu : HX (un X oo) wr := hO.unX hXr
    have hbase := hE.size
    by_cases hlt : i < l.length
    · have hsr : Sl QV 3 (mk (un X oo) wr) ao l := hsa.old QV.mono hE (fun j hj => hO.ob_lt hj)
      have hltL : i < L.length := by omega
      have htk := hid (take_snoc L i hltL)
      have hln := hid (len_take (l := L) (i := i) (by omega))
      obtain ⟨g1, o1, s1, a1, n1, c1, d1, k1, e1, hg1, hX1, hc1, hq1⟩ := hsr.rat QV.shaped i hlt
      have hob1 := (un_false hX1).2
      have hobb : ob oo b = false := hO.ob_lt (by omega)
      have i1 : ∀ W, (Instr.indexAt 27 (.slice ao l.length ca) (.int .i64 (i : Int))).run Tryz.prog W = .ok (.pointer (some ⟨g1, o1, none⟩)) W := by rw [<- hg1]; exact run_indexAt_adr slRat ao l.length ca .i64 i hha (by omega)
      have hEd : Ext wr wr.drew := (ExtX.refl wr).drew
      have hS : Hid (∀ Y W', ExtX Y wr.drew W' -> Y g1 = false -> Y b = false -> W'.cell? ⟨g1, o1, none⟩ = some (.bool s1) /\ W'.cell? ⟨g1, o1 + 1, none⟩ = some (.slice a1 n1 c1) /\ W'.cell? ⟨g1, o1 + 2, none⟩ = some (.slice d1 k1 e1) /\ W'.cell? ⟨b, 0, none⟩ = some (.bool s2) /\ W'.cell? ⟨b, 1, none⟩ = some (.slice a2 n2 c2) /\ W'.cell? ⟨b, 2, none⟩ = some (.slice d2 k2 e2)) := hid fun Y W' h hg hb => by
        have p1 := hc1.out Y W' ((ExtX.of hEd).trans h) hg
        have b1 := (b0.ext0 (hE.trans hEd)).ext h hb
        exact ⟨p1.1, p1.2.1, p1.2.2, b1.cell 0 rfl, b1.cell 1 rfl, b1.cell 2 rfl⟩
      obtain ⟨k00, k01, k02, k10, k11, k12⟩ := hS.out noY wr.drew (ExtX.refl _) rfl rfl
      have hxd : QV (mk (un X oo) wr.drew) (.agg #[.bool s1, .slice a1 n1 c1, .slice d1 k1 e1]) l[i] := hq1
      have hvd : QV (mk (un X oo) wr.drew) (.agg #[.bool s2, .slice a2 n2 c2, .slice d2 k2 e2]) c := old_un QV.mono hvW (hE.trans hEd) (fun j hj => hO.ob_lt hj)
      have hXd : HX (un X oo) wr.drew := hXu
      have hyi := hLi.out i hlt hltL
      rw [hyi] at htk
      clear hc1 hg1 hq1
      go_wp2_with fail
      go_region_held3 (fun w' => w'.cell? ⟨g1, o1, none⟩ = some (.bool s1) /\ w'.cell? ⟨g1, o1 + 1, none⟩ = some (.slice a1 n1 c1) /\ w'.cell? ⟨g1, o1 + 2, none⟩ = some (.slice d1 k1 e1) /\ w'.cell? ⟨b, 0, none⟩ = some (.bool s2) /\ w'.cell? ⟨b, 1, none⟩ = some (.slice a2 n2 c2) /\ w'.cell? ⟨b, 2, none⟩ = some (.slice d2 k2 e2))
        (first | exact hS.out noY _ t1 rfl rfl | exact hS.out noY _ (ExtX.alloc t1 _) rfl rfl | exact hS.out (ob oo) _ ((ExtX.of t1).trans hE7) hob1 hobb | go_keep)
        (first | (go_at_call 19; (with_reducible refine (rqmul (un X oo) wr.drew _ _ _ c hXd hxd hvd).mono ?_); rintro ee w6 ⟨t1, u6, rfl, hu6⟩; obtain ⟨s6, a6, n6, c6, d6, k6, e6, rfl⟩ := hu6.shape; have hO6 := hO.ext0 QC.elem (hEd.trans t1); have hb6 := (hEd.trans t1).size; have hX6 := hXr.ext (hEd.trans t1)) | (refine step_append1 (l := L.take i) rfl (by rfl) slRat rfl QC.elem (by omega) hX6 i hln.out rfl rfl hO6 (.agg #[.bool s6, .slice a6 n6 c6, .slice d6 k6 e6]) (l[i] * c) rfl hu6 (by omega) (by omega) ?_; intro oo2 co2 w7 hO7 hE7 hor))
      have hE8 := (hE.trans (hEd.trans t1)).own hO6 (Nat.le_refl _) hE7
      rw [htk.out] at hO7
      clear k00 k01 k02 k10 k11 k12
      go_wp2_with fail
      go_roundw
      case rel => exact ⟨i + 1, oo2, co2, by go_num, by go_num, by omega, hO7, hE8⟩
      case measure => simp [intOf]; omega
    · have hil : i = l.length := by omega
      subst hil
      rw [List.take_of_length_le (by omega)] at hO
      have hc := hO.lenCap
      have hs := hO.sl QC.elem
      go_wp2_with fail
      go_ret
      exact ⟨hEW.trans hE, _, rfl, oo, co, by rw [hLl]; rfl, hc, hs⟩
set_option maxRecDepth 100000 in
theorem rplus (X : Nat -> Bool) (w : World) (u v : Value) (l m : List Rat) (hX : HX X w) (hu : RV (mk X w) u l) (hv : RV (mk X w) v m) (hl : l.length <= 1000000) (hml : m.length = l.length) : Calls Tryz.prog 164 #[u, v] w (ROut X w RC (List.zipWith (· + ·) l m)) := by
  obtain ⟨ao, ca, rfl, hca, hsa⟩ := hu
  have hha := hsa.hd
  obtain ⟨bo, cb, rfl, hcb, hsb⟩ := hv
  have hhb := hsb.hd
  have hml1 : m.length <= l.length := by omega
  have hml2 : l.length <= m.length := by omega
  obtain ⟨L, hL⟩ : ∃ L, List.zipWith (· + ·) l m = L := ⟨_, rfl⟩
  have hLl : L.length = l.length := by rw [<- hL]; simp; omega
  have hLi := hid (show ∀ i (hi : i < l.length) (hj : i < m.length) (hi' : i < L.length), L[i] = l[i] + m[i] from fun i hi hj hi' => by subst hL; simp)
  rw [hL]
  have hLl1 : L.length <= l.length := by omega
  have hLl2 : l.length <= L.length := by omega
  have hLl' := hid hLl
  clear hL hml hLl
  go_enter Tryz.func164, Tryz.ntmps164
  go_wp2_with fail
  go_loopw [5, 6] (fun o cc wr => ∃ (i : Nat) (oo : Option Addr) (co : Nat), cc = .int .i64 i /\ o = .slice oo i co /\ i <= l.length /\ OL QC 3 X w.heap.size 34 wr oo co (L.take i) /\ Ext w wr) (fun _ cc _ => l.length - (intOf cc).toNat)
  case atStart => exact ⟨0, none, 0, rfl, rfl, Nat.zero_le _, OL.nil _ _ _ _ _ _, ExtX.refl _⟩
  case round =>
    obtain ⟨i, oo, co, rfl, rfl, hi, hO, hE⟩ := hrel
    have hXr : HX X wr := hX.ext hE
    have hXu : HX (un X oo) wr := hO.unX hXr
    have hbase := hE.size
    by_cases hlt : i < l.length
    · have hsr : Sl QV 3 (mk (un X oo) wr) ao l := hsa.old QV.mono hE (fun j hj => hO.ob_lt hj)
      have hltL : i < L.length := by omega
      have htk := hid (take_snoc L i hltL)
      have hln := hid (len_take (l := L) (i := i) (by omega))
      have hltm : i < m.length := by omega
      have hsr2 : Sl QV 3 (mk (un X oo) wr) bo m := hsb.old QV.mono hE (fun j hj => hO.ob_lt hj)
      obtain ⟨g2, o2, s2, a2, n2, c2, d2, k2, e2, hg2, hX2, hc2, hq2⟩ := hsr2.rat QV.shaped i hltm
      obtain ⟨g1, o1, s1, a1, n1, c1, d1, k1, e1, hg1, hX1, hc1, hq1⟩ := hsr.rat QV.shaped i hlt
      have hob1 := (un_false hX1).2
      have hobb := (un_false hX2).2
      have i2 : ∀ W, (Instr.indexAt 27 (.slice bo m.length cb) (.int .i64 (i : Int))).run Tryz.prog W = .ok (.pointer (some ⟨g2, o2, none⟩)) W := by rw [<- hg2]; exact run_indexAt_adr slRat bo m.length cb .i64 i hhb (by omega)
      have i1 : ∀ W, (Instr.indexAt 27 (.slice ao l.length ca) (.int .i64 (i : Int))).run Tryz.prog W = .ok (.pointer (some ⟨g1, o1, none⟩)) W := by rw [<- hg1]; exact run_indexAt_adr slRat ao l.length ca .i64 i hha (by omega)
      have hEd : Ext wr wr.drew := (ExtX.refl wr).drew
      have hS : Hid (∀ Y W', ExtX Y wr.drew W' -> Y g1 = false -> Y g2 = false -> W'.cell? ⟨g1, o1, none⟩ = some (.bool s1) /\ W'.cell? ⟨g1, o1 + 1, none⟩ = some (.slice a1 n1 c1) /\ W'.cell? ⟨g1, o1 + 2, none⟩ = some (.slice d1 k1 e1) /\ W'.cell? ⟨g2, o2, none⟩ = some (.bool s2) /\ W'.cell? ⟨g2, o2 + 1, none⟩ = some (.slice a2 n2 c2) /\ W'.cell? ⟨g2, o2 + 2, none⟩ = some (.slice d2 k2 e2)) := hid fun Y W' h hg hb => by
        have p1 := hc1.out Y W' ((ExtX.of hEd).trans h) hg
        have p2 := hc2.out Y W' ((ExtX.of hEd).trans h) hb
        exact ⟨p1.1, p1.2.1, p1.2.2, p2.1, p2.2.1, p2.2.2⟩
      obtain ⟨k00, k01, k02, k10, k11, k12⟩ := hS.out noY wr.drew (ExtX.refl _) rfl rfl
      have hxd : QV (mk (un X oo) wr.drew) (.agg #[.bool s1, .slice a1 n1 c1, .slice d1 k1 e1]) l[i] := hq1
      have hvd : QV (mk (un X oo) wr.drew) (.agg #[.bool s2, .slice a2 n2 c2, .slice d2 k2 e2]) m[i] := hq2
      have hXd : HX (un X oo) wr.drew := hXu
      have hyi := hLi.out i hlt hltm hltL
      rw [hyi] at htk
      clear hc1 hg1 hq1 hc2 hg2 hq2
      go_wp2_with fail
      go_region_held3 (fun w' => w'.cell? ⟨g1, o1, none⟩ = some (.bool s1) /\ w'.cell? ⟨g1, o1 + 1, none⟩ = some (.slice a1 n1 c1) /\ w'.cell? ⟨g1, o1 + 2, none⟩ = some (.slice d1 k1 e1) /\ w'.cell? ⟨g2, o2, none⟩ = some (.bool s2) /\ w'.cell? ⟨g2, o2 + 1, none⟩ = some (.slice a2 n2 c2) /\ w'.cell? ⟨g2, o2 + 2, none⟩ = some (.slice d2 k2 e2))
        (first | exact hS.out noY _ t1 rfl rfl | exact hS.out noY _ (ExtX.alloc t1 _) rfl rfl | exact hS.out (ob oo) _ ((ExtX.of t1).trans hE7) hob1 hobb | go_keep)
        (first | (go_at_call 48; (with_reducible refine (rqadd (un X oo) wr.drew _ _ _ _ hXd hxd hvd).mono ?_); rintro ee w6 ⟨t1, u6, rfl, hu6⟩; obtain ⟨s6, a6, n6, c6, d6, k6, e6, rfl⟩ := hu6.shape; have hO6 := hO.ext0 QC.elem (hEd.trans t1); have hb6 := (hEd.trans t1).size; have hX6 := hXr.ext (hEd.trans t1)) | (refine step_append1 (l := L.take i) rfl (by rfl) slRat rfl QC.elem (by omega) hX6 i hln.out rfl rfl hO6 (.agg #[.bool s6, .slice a6 n6 c6, .slice d6 k6 e6]) (l[i] + m[i]) rfl hu6 (by omega) (by omega) ?_; intro oo2 co2 w7 hO7 hE7 hor))
      have hE8 := (hE.trans (hEd.trans t1)).own hO6 (Nat.le_refl _) hE7
      rw [htk.out] at hO7
      clear k00 k01 k02 k10 k11 k12
      go_wp2_with fail
      go_roundw
      case rel => exact ⟨i + 1, oo2, co2, by go_num, by go_num, by omega, hO7, hE8⟩
      case measure => simp [intOf]; omega
    · have hil : i = l.length := by omega
      subst hil
      rw [List.take_of_length_le (by omega)] at hO
      have hc := hO.lenCap
      have hs := hO.sl QC.elem
      go_wp2_with fail
      go_ret
      exact ⟨hE, _, rfl, oo, co, by rw [hLl'.out]; rfl, hc, hs⟩
end Go.Proofs.YthipmbmjodhiiaaGreat
namespace Go.Lin
open Go.Lim
end Go.Lin
namespace Go.Proofs.YthipmbmjodhiiaaGreat
open Go.RowKit Go.Rep Go.Lim Go.Lin
end Go.Proofs.YthipmbmjodhiiaaGreat
namespace Go.Proofs.YthipmbmjodhiiaaGreat
open Go.RowKit Go.Rep Go.Lim
set_option maxRecDepth 100000 in
theorem rqsub (X : Nat -> Bool) (w : World) (u v : Value) (x y : Rat) (hX : HX X w) (hu : QV (mk X w) u x) (hv : QV (mk X w) v y) : Calls Tryz.prog 18 #[u, v] w (ROut X w QC (x - y)) := by
  have hlx := hid hu.hq
  have hly := hid hv.hq
  obtain ⟨s1, a1, n1, c1, d1, k1, e1, rfl⟩ := hu.shape
  obtain ⟨s2, a2, n2, c2, d2, k2, e2, rfl⟩ := hv.shape
  obtain ⟨W, hW, hE, b0, b1, b2, hz⟩ := boxes3 w #[.bool s1, .slice a1 n1 c1, .slice d1 k1 e1] #[.bool s2, .slice a2 n2 c2, .slice d2 k2 e2] #[.bool false, .slice none 0 0, .slice none 0 0] 34 34 34
  have hXW : HX (hidB X w.heap.size 3) W := hX.boxes hz
  have hu1 := QV.mono _ _ _ _ (le_boxes (nb := 3) hE) hu
  have hv1 := QV.mono _ _ _ _ (le_boxes (nb := 3) hE) hv
  obtain ⟨b, hb⟩ : ∃ b, w.heap.size = b := ⟨_, rfl⟩
  have hbw : w.heap.size <= b := by omega
  rw [hb] at b0 b1 b2 hz hXW hu1 hv1
  have hEd : Ext W W.drew := (ExtX.refl W).drew
  have hXd : HX (hidB X b 3) W.drew := hXW
  have hud : QV (mk (hidB X b 3) W.drew) (.agg #[.bool s1, .slice a1 n1 c1, .slice d1 k1 e1]) x := hu1
  have hvd : QV (mk (hidB X b 3) W.drew) (.agg #[.bool s2, .slice a2 n2 c2, .slice d2 k2 e2]) y := hv1
  have k00 := b0.cell 0 rfl
  have k01 := b0.cell 1 rfl
  have k02 := b0.cell 2 rfl
  have k10 := b1.cell 0 rfl
  have k11 := b1.cell 1 rfl
  have k12 := b1.cell 2 rfl
  clear hu hv
  have hB := hid (And.intro b0 b1)
  have hS : Hid (∀ W', Ext W.drew W' -> W'.cell? ⟨b, 0, none⟩ = some (.bool s1) /\ W'.cell? ⟨b, 1, none⟩ = some (.slice a1 n1 c1) /\ W'.cell? ⟨b, 2, none⟩ = some (.slice d1 k1 e1) /\ W'.cell? ⟨b + 1, 0, none⟩ = some (.bool s2) /\ W'.cell? ⟨b + 1, 1, none⟩ = some (.slice a2 n2 c2) /\ W'.cell? ⟨b + 1, 2, none⟩ = some (.slice d2 k2 e2)) :=
    hid fun W' h => ⟨(b0.ext0 (hEd.trans h)).cell 0 rfl, (b0.ext0 (hEd.trans h)).cell 1 rfl, (b0.ext0 (hEd.trans h)).cell 2 rfl, (b1.ext0 (hEd.trans h)).cell 0 rfl, (b1.ext0 (hEd.trans h)).cell 1 rfl, (b1.ext0 (hEd.trans h)).cell 2 rfl⟩
  have hny := hid (show hq (-y) <= 68719476736 by rw [hq_neg]; exact hly.out)
  have hsum : Hid (x + -y = x - y) := hid (Rat.sub_eq_add_neg x y).symm
  go_enter Tryz.func18, Tryz.ntmps18
  go_upto_region 1 with (fail)
  go_region_held3 (fun w' => w'.cell? ⟨b, 0, none⟩ = some (.bool s1) /\ w'.cell? ⟨b, 1, none⟩ = some (.slice a1 n1 c1) /\ w'.cell? ⟨b, 2, none⟩ = some (.slice d1 k1 e1) /\ w'.cell? ⟨b + 1, 0, none⟩ = some (.bool s2) /\ w'.cell? ⟨b + 1, 1, none⟩ = some (.slice a2 n2 c2) /\ w'.cell? ⟨b + 1, 2, none⟩ = some (.slice d2 k2 e2))
    (first | exact hS.out _ t1 | exact hS.out _ t2 | exact ⟨((hB.out.1.ext0 (hEd.trans t2)).ext (bb2.set3 _ _ _).2 (ob_other (by omega))).cell 0 rfl, ((hB.out.1.ext0 (hEd.trans t2)).ext (bb2.set3 _ _ _).2 (ob_other (by omega))).cell 1 rfl, ((hB.out.1.ext0 (hEd.trans t2)).ext (bb2.set3 _ _ _).2 (ob_other (by omega))).cell 2 rfl, ((hB.out.2.ext0 (hEd.trans t2)).ext (bb2.set3 _ _ _).2 (ob_other (by omega))).cell 0 rfl, ((hB.out.2.ext0 (hEd.trans t2)).ext (bb2.set3 _ _ _).2 (ob_other (by omega))).cell 1 rfl, ((hB.out.2.ext0 (hEd.trans t2)).ext (bb2.set3 _ _ _).2 (ob_other (by omega))).cell 2 rfl⟩ | go_keep)
    (first | (go_at_call 50; (with_reducible refine (rqneg (hidB X b 3) W.drew _ y hXd hvd).mono ?_); rintro ee w5 ⟨t1, u5, rfl, hu5⟩; have hX5 := HX.ext hXd t1; have hx5 := mkx QV.mono hud t1) | (go_at_call 48; (with_reducible refine (rqadd (hidB X b 3) w5 _ _ x (-y) hX5 hx5 (hu5.qv hny.out)).mono ?_); rintro ee w6 ⟨hE6, u6, rfl, hu6⟩; obtain ⟨s6, a6, n6, c6, d6, k6, e6, rfl⟩ := hu6.shape; have t2 := t1.trans hE6; have bb2 := b2.ext0 (hEd.trans t2); have g0 := bb2.cell 0 rfl; have g1 := bb2.cell 1 rfl; have g2 := bb2.cell 2 rfl; have f0 := bb2.frozen 0; have f1 := bb2.frozen 1; have f2 := bb2.frozen 2))
  rw [hsum.out] at hu6
  obtain ⟨q1, q2⟩ := bb2.set3 (.bool s6) (.slice a6 n6 c6) (.slice d6 k6 e6)
  have h7 := QC.mono _ _ _ _ le_unbox (QC.mono _ _ _ _ (le_store q2 (by omega) (by omega)) hu6)
  have hEf : Ext w _ := ExtX.box (hE.trans (hEd.trans t2)) q2 (by omega)
  clear g0 g1 g2 f0 f1 f2 k00 k01 k02 k10 k11 k12 hS hB
  go_wp2_with fail
  exact bodyPost_ret (results_box rfl rfl stRat q1 rfl) rfl ⟨hEf, _, rfl, h7⟩
set_option maxRecDepth 100000 in
theorem rqfraction (X : Nat -> Bool) (w : World) (a k : Int) (hX : HX X w) (h1 : -9223372036854775808 <= a) (h2 : a <= 9223372036854775807) (h3 : -9223372036854775808 <= k) (h4 : k <= 9223372036854775807) (hk : k ≠ 0) (ha : lg a.natAbs <= 274877906944) (hkl : lg k.natAbs <= 274877906944) : Calls Tryz.prog 47 #[.int .i64 a, .int .i64 k] w (ROut X w QC ((a : Rat) / (k : Rat))) := by
  obtain ⟨W, hW, hE, b0, hz⟩ := boxes1 w #[.bool false, .slice none 0 0, .slice none 0 0] 34
  have hXW : HX (hidB X w.heap.size 1) W := hX.boxes hz
  obtain ⟨b, hb⟩ : ∃ b, w.heap.size = b := ⟨_, rfl⟩
  have hbw : w.heap.size <= b := by omega
  rw [hb] at b0 hz hXW
  have hI := hid (And.intro (And.intro h1 h2) (And.intro (And.intro h3 h4) (And.intro hk (And.intro ha hkl))))
  clear h1 h2 h3 h4 hk ha hkl
  go_enter Tryz.func47, Tryz.ntmps47
  go_wp2_with fail
  refine (rifrom (hidB X b 1) W a hXW hI.out.1.1 hI.out.1.2).mono ?_
  rintro e1 w1 ⟨hE1, u1, rfl, hu1⟩
  have hX1 := hXW.ext hE1
  go_wp2_with fail
  refine (rifrom (hidB X b 1) w1 k hX1 hI.out.2.1.1 hI.out.2.1.2).mono ?_
  rintro e2 w2 ⟨hE2, u2, rfl, hu2⟩
  go_wp2_with fail
  refine (rqover (hidB X b 1) w2 _ _ a k (hX1.ext hE2) (mkx ZC.mono hu1 hE2) hu2 hI.out.2.2.2.1 hI.out.2.2.2.2 hI.out.2.2.1).mono ?_
  rintro e3 w3 ⟨hE3, u3, rfl, hu3⟩
  obtain ⟨s5, a5, n5, c5, d5, k5, e5, rfl⟩ := hu3.shape
  have bb := ((b0.ext0 hE1).ext0 hE2).ext0 hE3
  go_wp2_with ((with_reducible show wpList _ _ _ (⟨_, .store _ _ _, _, _, _, _⟩ :: _) _ _); refine st_storeBox stRat rfl rfl bb rfl rfl (one3 _ _ _ _ _ _ _) ?_; intro w7 r1 r2)
  have h7 := QC.mono _ _ _ _ le_unbox (QC.mono _ _ _ _ (le_store r2 (by omega) (by omega)) hu3)
  exact bodyPost_ret (results_box rfl rfl stRat r1 rfl) rfl ⟨ExtX.box (hE.trans (hE1.trans (hE2.trans hE3))) r2 (by omega), _, rfl, h7⟩
end Go.Proofs.YthipmbmjodhiiaaGreat
namespace Go.Proofs.YthipmbmjodhiiaaGreat
open Go.RowKit Go.Rep Go.Lim Go.Lin
end Go.Proofs.YthipmbmjodhiiaaGreat
namespace Go.Proofs.YthipmbmjodhiiaaGreat
open Go.RowKit Go.Rep Go.Lim Go.Lin
def TkOut (X : Nat -> Bool) (w : World) (l : List (List Rat)) (e : Ending) (w' : World) : Prop := Ext w w' /\ ∃ oo co, e = .returned (.slice oo l.length co) /\ OL RC 1 X w.heap.size 27 w' oo co l
set_option maxRecDepth 100000 in
theorem rmtakeO (X : Nat -> Bool) (w : World) (u : Value) (l : List (List Rat)) (hX : HX X w) (hu : MV (mk X w) u l) (hl : l.length <= 1000000) (hrl : ∀ r ∈ l, r.length <= 1000000) : Calls Tryz.prog 161 #[u] w (TkOut X w l) := by
  obtain ⟨ao, ca, rfl, hca, hsa⟩ := hu
  have hha := hsa.hd
  have hrl' := hid hrl
  clear hrl
  go_enter Tryz.func161, Tryz.ntmps161
  go_wp2_with fail
  go_loopw [3, 4] (fun o c wr => ∃ (i : Nat) (oo : Option Addr) (co : Nat), c = .int .i64 i /\ o = .slice oo i co /\ i <= l.length /\ OL RC 1 X w.heap.size 27 wr oo co (l.take i) /\ Ext w wr) (fun _ c _ => l.length - (intOf c).toNat)
  case atStart => exact ⟨0, none, 0, rfl, rfl, Nat.zero_le _, OL.nil _ _ _ _ _ _, ExtX.refl _⟩
  case round =>
    obtain ⟨i, oo, co, rfl, rfl, hi, hO, hE⟩ := hrel
    have hXr : HX X wr := hX.ext hE
    have hXu : HX (un X oo) wr := hO.unX hXr
    have hbase := hE.size
    by_cases hlt : i < l.length
    · have hsr : Sl RV 1 (mk (un X oo) wr) ao l := hsa.old RV.mono hE (fun j hj => hO.ob_lt hj)
      have htk := hid (take_snoc l i hlt)
      have hln := hid (len_take hi)
      obtain ⟨a1, c1, hX1, hc1, hcl1, hq1⟩ := hsr.row i hlt
      have k00 := hc1.out noY wr (ExtX.refl _) rfl
      have hlr := hid (hrl'.out l[i] (List.getElem_mem _))
      go_wp2_with (with_reducible refine up_ix1 slRats (by omega) (by assumption) ?_)
      refine (rqtakelist (un X oo) wr _ l[i] hXu ⟨a1, c1, rfl, hcl1, hq1⟩ hlr.out).mono ?_
      rintro e w6 ⟨hE6, u6, rfl, hu6⟩
      obtain ⟨a6, c6, rfl, hcl6, hs6⟩ := hu6
      have hO6 := hO.ext0 RC.elem hE6
      have hb6 := hE6.size
      clear k00
      go_wp2_with (at_builtin; refine st_append1n (l := l.take i) slRats rfl RC.elem (by omega) (hXr.ext hE6) i hln.out rfl rfl hO6 (.slice a6 l[i].length c6) l[i] rfl ⟨a6, c6, rfl, hcl6, hs6⟩ (by omega) (by omega) ?_; intro oo2 co2 w7 hO7 hE7 hor)
      have hE8 := (hE.trans hE6).own hO6 (Nat.le_refl _) hE7
      rw [htk.out] at hO7
      go_roundw
      case rel => exact ⟨i + 1, oo2, co2, by go_num, by go_num, by omega, hO7, hE8⟩
      case measure => simp [intOf]; omega
    · have hil : i = l.length := by omega
      subst hil
      rw [List.take_length] at hO
      go_wp2_with fail
      go_ret
      exact ⟨hE, oo, co, rfl, hO⟩
end Go.Proofs.YthipmbmjodhiiaaGreat
namespace Go.Lin
def formedB {α : Type} (m : List (List α)) : Bool := decide (m.length <= 96) && m.all fun r => decide (1 <= r.length /\ r.length <= 96 /\ r.length = (m.getD 0 []).length)
def colsL {α : Type} (m : List (List α)) : Nat := (m.getD 0 []).length
theorem formedB_true {α : Type} {m : List (List α)} : formedB m = true ↔ m.length <= 96 /\ ∀ i (hi : i < m.length), 1 <= m[i].length /\ m[i].length <= 96 /\ m[i].length = colsL m := by
  unfold formedB colsL
  rw [Bool.and_eq_true, decide_eq_true_eq, List.all_eq_true]
  constructor
  · rintro ⟨h1, h2⟩
    exact ⟨h1, fun i hi => by simpa using h2 _ (List.getElem_mem hi)⟩
  · rintro ⟨h1, h2⟩
    refine ⟨h1, fun r hr => ?_⟩
    obtain ⟨i, hi, rfl⟩ := List.getElem_of_mem hr
    simpa using h2 i hi
theorem formedB_false {α : Type} {m : List (List α)} (i : Nat) (hi : i < m.length) (h : ¬ (1 <= m[i].length /\ m[i].length <= 96 /\ m[i].length = colsL m)) : false = formedB m := by
  symm
  cases hf : formedB m
  · rfl
  · exact absurd ((formedB_true.1 hf).2 i hi) h
theorem colsL_pos {α : Type} {m : List (List α)} (h : 0 < m.length) : colsL m = m[0].length := by simp [colsL, List.getD_eq_getElem?_getD, h]
theorem formedB_shp {m : List (List Rat)} (h : formedB m = true) : Shp m.length (colsL m) m /\ m.length <= 96 /\ colsL m <= 96 /\ (0 < m.length -> 1 <= colsL m) /\ (m.length = 0 -> colsL m = 0) := by
  have h1 := formedB_true.1 h
  refine ⟨⟨rfl, fun r hr => ?_⟩, h1.1, ?_, fun h0 => ?_, fun h0 => ?_⟩
  · obtain ⟨i, hi, rfl⟩ := List.getElem_of_mem hr
    exact (h1.2 i hi).2.2
  · by_cases h0 : 0 < m.length
    · have := h1.2 0 h0; omega
    · have : m = [] := List.eq_nil_of_length_eq_zero (by omega)
      subst this; simp [colsL]
  · have := h1.2 0 h0; omega
  · have : m = [] := List.eq_nil_of_length_eq_zero h0
    subst this; rfl
end Go.Lin
namespace Go.Proofs.YthipmbmjodhiiaaGreat
open Go.RowKit Go.Rep Go.Lim Go.Lin
theorem columns_any {R : Mem -> Value -> Rat -> Prop} (X : Nat -> Bool) (w : World) (u : Value) (m : List (List Rat)) (hu : SlV (SlV R 3) 1 (mk X w) u m) : Calls Tryz.prog 124 #[u] w (fun e w' => w' = w /\ e = .returned (.int .i64 (colsL m : Int))) := by
  obtain ⟨ao, ca, rfl, hca, hsa⟩ := hu
  have hha := hsa.hd
  by_cases h : 0 < m.length
  · obtain ⟨a1, c1, hX1, hc1, hcl1, hq1⟩ := hsa.row 0 h
    have k00 := hc1.out noY w (ExtX.refl _) rfl
    have hc := hid (colsL_pos h)
    have hI : ((m.length : Int) == 0) = false := beqF (by omega)
    go_enter Tryz.func124, Tryz.ntmps124
    go_wp2_with (with_reducible refine up_ix1 slRats (by omega) (by assumption) ?_)
    go_ret
    exact ⟨rfl, ret_int (by rw [hc.out])⟩
  · have hc : Hid (colsL m = 0) := hid (by
      have : m = [] := List.eq_nil_of_length_eq_zero (by omega)
      subst this; rfl)
    have hI : ((m.length : Int) == 0) = true := beqT (by omega)
    go_enter Tryz.func124, Tryz.ntmps124
    go_wp2_with (with_reducible refine up_ix1 slRats (by omega) (by assumption) ?_)
    go_ret
    exact ⟨rfl, ret_int (by rw [hc.out]; rfl)⟩
set_option maxRecDepth 100000 in
theorem formed_any {R : Mem -> Value -> Rat -> Prop} (X : Nat -> Bool) (w : World) (u : Value) (m : List (List Rat)) (hu : SlV (SlV R 3) 1 (mk X w) u m) (hl : m.length <= 1099511627776) : Calls Tryz.prog 120 #[u] w (fun e w' => w' = w /\ e = .returned (.bool (formedB m))) := by
  obtain ⟨ao, ca, rfl, hca, hsa⟩ := hu
  have hha := hsa.hd
  by_cases h96 : 96 < m.length
  · have hv : Hid (false = formedB m) := hid (by
      symm
      cases hf : formedB m
      · rfl
      · have := (formedB_true.1 hf).1; omega)
    have hI : (96 : Int) < (m.length : Int) := by omega
    go_enter Tryz.func120, Tryz.ntmps120
    go_wp2_with fail
    go_ret
    exact ⟨rfl, ret_bool hv.out⟩
  · have hI : ¬ (96 : Int) < (m.length : Int) := by omega
    go_enter Tryz.func120, Tryz.ntmps120
    go_wp2_with fail
    go_loop [10] (fun c => ∃ (i : Nat), c = .int .i64 i /\ i <= m.length /\ Hid (∀ q, q < i -> ∀ hq : q < m.length, 1 <= m[q].length /\ m[q].length <= 96 /\ m[q].length = colsL m)) (fun c => m.length - (intOf c).toNat)
    case atStart => exact ⟨0, rfl, Nat.zero_le _, fun q hq => by omega⟩
    case round =>
      obtain ⟨i, rfl, hi, hok⟩ := hrel
      by_cases hlt : i < m.length
      · have h0 : 0 < m.length := by omega
        obtain ⟨a1, c1, hX1, hc1, hcl1, hq1⟩ := hsa.row i hlt
        obtain ⟨a2, c2, hX2, hc2, hcl2, hq2⟩ := hsa.row 0 h0
        have k00 := hc1.out noY w (ExtX.refl _) rfl
        have k10 := hc2.out noY w (ExtX.refl _) rfl
        have hcol := colsL_pos h0
        have hno := hid (formedB_false i hlt)
        rw [<- hcol] at k10
        obtain ⟨x, hx⟩ : ∃ x, m[i].length = x := ⟨_, rfl⟩
        obtain ⟨y, hy⟩ : ∃ y, colsL m = y := ⟨_, rfl⟩
        rw [hx] at k00 hno
        rw [hy] at k10 hno
        have hst : Hid (1 <= x /\ x <= 96 /\ x = y -> ∀ hq : i < m.length, 1 <= m[i].length /\ m[i].length <= 96 /\ m[i].length = colsL m) := hid fun h hq => by rw [hx, hy]; exact h
        clear hx hy hcol hc1 hc2 hq1 hq2 hcl1 hcl2
        by_cases hx0 : x = 0
        · have d0 : ((x : Int) == 0) = true := beqT (by omega)
          have hv := hid (hno.out (by omega))
          clear hx0
          go_wp2_with (with_reducible refine up_ix1 slRats (by omega) (by assumption) ?_)
          go_ret
          exact ⟨rfl, ret_bool hv.out⟩
        · have d0 : ((x : Int) == 0) = false := beqF (by omega)
          by_cases hx1 : 96 < x
          · have d1 : (96 : Int) < (x : Int) := by omega
            have hv := hid (hno.out (by omega))
            clear hx0
            go_wp2_with (with_reducible refine up_ix1 slRats (by omega) (by assumption) ?_)
            go_ret
            exact ⟨rfl, ret_bool hv.out⟩
          · have d1 : ¬ (96 : Int) < (x : Int) := by omega
            by_cases hxy : x = y
            · have d2 : ((x : Int) != (y : Int)) = false := bneF (by omega)
              have hst2 := hid (hst.out ⟨by omega, by omega, hxy⟩)
              clear hx0 hxy
              go_wp2_with (with_reducible refine up_ix1 slRats (by omega) (by assumption) ?_)
              go_round
              case rel => exact ⟨i + 1, by go_num, by omega, upto_succ hok.out hst2.out⟩
              case measure => simp [intOf]; omega
            · have d2 : ((x : Int) != (y : Int)) = true := bneT (by omega)
              have hv := hid (hno.out (by omega))
              clear hx0 hxy
              go_wp2_with (with_reducible refine up_ix1 slRats (by omega) (by assumption) ?_)
              go_ret
              exact ⟨rfl, ret_bool hv.out⟩
      · have hv : Hid (true = formedB m) := hid (by
          symm
          exact formedB_true.2 ⟨by omega, fun q hq => hok.out q (by omega) hq⟩)
        go_wp2_with fail
        go_ret
        exact ⟨rfl, ret_bool hv.out⟩
end Go.Proofs.YthipmbmjodhiiaaGreat
namespace Go.Lin
open Go.Rep
def sameB {α : Type} (m : List (List α)) (lo hi : Nat) : Bool := decide (∀ i (h : i < m.length), m[i].length = colsL m /\ lo <= m[i].length /\ m[i].length <= hi)
theorem sameB_true {α : Type} {m : List (List α)} {lo hi : Nat} : sameB m lo hi = true ↔ ∀ i (h : i < m.length), m[i].length = colsL m /\ lo <= m[i].length /\ m[i].length <= hi := by unfold sameB; simp
theorem sameB_false {α : Type} {m : List (List α)} {lo hi : Nat} (i : Nat) (h : i < m.length) (hn : ¬ (m[i].length = colsL m /\ lo <= m[i].length /\ m[i].length <= hi)) : false = sameB m lo hi := by
  symm
  cases hs : sameB m lo hi
  · rfl
  · exact absurd (sameB_true.1 hs i h) hn
def ptsB {α : Type} (m : List (List α)) : Bool := decide (1 <= m.length) && (decide (m.length <= 64) && sameB m 1 3)
theorem ptsB_true {α : Type} {m : List (List α)} : ptsB m = true ↔ 1 <= m.length /\ m.length <= 64 /\ 1 <= colsL m /\ colsL m <= 3 /\ ∀ i (h : i < m.length), m[i].length = colsL m := by
  unfold ptsB
  simp only [Bool.and_eq_true, decide_eq_true_eq, sameB_true]
  constructor
  · rintro ⟨h1, h2, h3⟩
    have h4 := h3 0 (by omega)
    exact ⟨h1, h2, by omega, by omega, fun i h => (h3 i h).1⟩
  · rintro ⟨h1, h2, h3, h4, h5⟩
    exact ⟨h1, h2, fun i h => ⟨h5 i h, by rw [h5 i h]; exact h3, by rw [h5 i h]; exact h4⟩⟩
theorem ptsB_shp {m : Mat} (h : ptsB m = true) : Shp m.length (colsL m) m := by
  refine ⟨rfl, fun r hr => ?_⟩
  obtain ⟨i, hi, rfl⟩ := List.getElem_of_mem hr
  exact (ptsB_true.1 h).2.2.2.2 i hi
theorem ptsB_row {m : Mat} (h : ptsB m = true) : ∀ r ∈ m, r.length = colsL m := (ptsB_shp h).2
end Go.Lin
namespace Go.Proofs.YthipmbmjodhiiaaGreat
open Go.RowKit Go.Rep Go.Lim Go.Lin
set_option maxRecDepth 100000 in
theorem esame_any {R : Mem -> Value -> Rat -> Prop} (X : Nat -> Bool) (w : World) (u : Value) (m : List (List Rat)) (lo hi : Nat) (hu : SlV (SlV R 3) 1 (mk X w) u m) (hl : m.length <= 1099511627776) : Calls Tryz.prog 76 #[u, .int .i64 (lo : Int), .int .i64 (hi : Int)] w (fun e w' => w' = w /\ e = .returned (.bool (sameB m lo hi))) := by
  obtain ⟨ao, ca, rfl, hca, hsa⟩ := hu
  have hha := hsa.hd
  go_enter Tryz.func76, Tryz.ntmps76
  go_wp2_with fail
  go_loop [11] (fun c => ∃ (i : Nat), c = .int .i64 i /\ i <= m.length /\ Hid (∀ q, q < i -> ∀ hq : q < m.length, m[q].length = colsL m /\ lo <= m[q].length /\ m[q].length <= hi)) (fun c => m.length - (intOf c).toNat)
  case atStart => exact ⟨0, rfl, Nat.zero_le _, fun q hq => by omega⟩
  case round =>
    obtain ⟨i, rfl, hi', hok⟩ := hrel
    by_cases hlt : i < m.length
    · have h0 : 0 < m.length := by omega
      obtain ⟨a1, c1, hX1, hc1, hcl1, hq1⟩ := hsa.row i hlt
      obtain ⟨a2, c2, hX2, hc2, hcl2, hq2⟩ := hsa.row 0 h0
      have k00 := hc1.out noY w (ExtX.refl _) rfl
      have k10 := hc2.out noY w (ExtX.refl _) rfl
      have hcol := colsL_pos h0
      have hno := hid (sameB_false (lo := lo) (hi := hi) i hlt)
      rw [<- hcol] at k10
      obtain ⟨x, hx⟩ : ∃ x, m[i].length = x := ⟨_, rfl⟩
      obtain ⟨y, hy⟩ : ∃ y, colsL m = y := ⟨_, rfl⟩
      rw [hx] at k00 hno
      rw [hy] at k10 hno
      have hst : Hid (x = y /\ lo <= x /\ x <= hi -> ∀ hq : i < m.length, m[i].length = colsL m /\ lo <= m[i].length /\ m[i].length <= hi) := hid fun h hq => by rw [hx, hy]; exact h
      clear hx hy hcol hc1 hc2 hq1 hq2 hcl1 hcl2
      by_cases hxy : x = y
      · have d2 : ((x : Int) != (y : Int)) = false := bneF (by omega)
        by_cases hx0 : x < lo
        · have d0 : (x : Int) < (lo : Int) := by omega
          have hv := hid (hno.out (by omega))
          clear hxy
          go_wp2_with (with_reducible refine up_ix1 slRats (by omega) (by assumption) ?_)
          go_ret
          exact ⟨rfl, ret_bool hv.out⟩
        · have d0 : ¬ (x : Int) < (lo : Int) := by omega
          by_cases hx1 : hi < x
          · have d1 : (hi : Int) < (x : Int) := by omega
            have hv := hid (hno.out (by omega))
            clear hxy
            go_wp2_with (with_reducible refine up_ix1 slRats (by omega) (by assumption) ?_)
            go_ret
            exact ⟨rfl, ret_bool hv.out⟩
          · have d1 : ¬ (hi : Int) < (x : Int) := by omega
            have hst2 := hid (hst.out ⟨hxy, by omega, by omega⟩)
            clear hxy
            go_wp2_with (with_reducible refine up_ix1 slRats (by omega) (by assumption) ?_)
            go_round
            case rel => exact ⟨i + 1, by go_num, by omega, upto_succ hok.out hst2.out⟩
            case measure => simp [intOf]; omega
      · have d2 : ((x : Int) != (y : Int)) = true := bneT (by omega)
        have hv := hid (hno.out (by omega))
        clear hxy
        go_wp2_with (with_reducible refine up_ix1 slRats (by omega) (by assumption) ?_)
        go_ret
        exact ⟨rfl, ret_bool hv.out⟩
    · have hv : Hid (true = sameB m lo hi) := hid (by
        symm
        exact sameB_true.2 fun q hq => hok.out q (by omega) hq)
      go_wp2_with fail
      go_ret
      exact ⟨rfl, ret_bool hv.out⟩
theorem epoints_any {R : Mem -> Value -> Rat -> Prop} (X : Nat -> Bool) (w : World) (u : Value) (m : List (List Rat)) (hu : SlV (SlV R 3) 1 (mk X w) u m) (hl : m.length <= 1099511627776) : Calls Tryz.prog 61 #[u] w (fun e w' => w' = w /\ e = .returned (.bool (ptsB m))) := by
  have hsa := esame_any X w u m 1 3 hu hl
  obtain ⟨ao, ca, rfl, hca, _⟩ := hu
  by_cases h1 : m.length < 1
  · have d1 : ¬ (1 : Int) <= (m.length : Int) := by omega
    have hv : Hid (false = ptsB m) := hid (by unfold ptsB; rw [decide_eq_false (by omega)]; rfl)
    go_enter Tryz.func61, Tryz.ntmps61
    go_wp2_with fail
    go_ret
    exact ⟨rfl, ret_bool hv.out⟩
  · have d1 : (1 : Int) <= (m.length : Int) := by omega
    by_cases h2 : m.length <= 64
    · have d2 : (m.length : Int) <= 64 := by omega
      have hv : Hid (sameB m 1 3 = ptsB m) := hid (by unfold ptsB; rw [decide_eq_true h2, decide_eq_true (by omega)]; rfl)
      go_enter Tryz.func61, Tryz.ntmps61
      go_wp2_with fail
      refine hsa.mono ?_
      rintro e w1 ⟨rfl, rfl⟩
      go_wp2_with fail
      go_ret
      exact ⟨rfl, ret_bool hv.out⟩
    · have d2 : ¬ (m.length : Int) <= 64 := by omega
      have hv : Hid (false = ptsB m) := hid (by unfold ptsB; rw [decide_eq_false h2, Bool.false_and, Bool.and_false])
      go_enter Tryz.func61, Tryz.ntmps61
      go_wp2_with fail
      go_ret
      exact ⟨rfl, ret_bool hv.out⟩
theorem hfits_any {R : Mem -> Value -> Rat -> Prop} (X : Nat -> Bool) (w : World) (u : Value) (m : List (List Rat)) (xo : Option Addr) (xl xc : Nat) (hu : SlV (SlV R 3) 1 (mk X w) u m) (hl : m.length <= 1099511627776) : Calls Tryz.prog 57 #[u, .slice xo xl xc] w (fun e w' => w' = w /\ e = .returned (.bool (ptsB m && decide (xl = colsL m)))) := by
  have hpo := epoints_any X w u m hu hl
  obtain ⟨ao, ca, rfl, hca, hsa⟩ := hu
  have hha := hsa.hd
  cases hp : ptsB m
  · rw [hp] at hpo
    clear hp
    go_enter Tryz.func57, Tryz.ntmps57
    go_wp2_with fail
    refine hpo.mono ?_
    rintro e w1 ⟨rfl, rfl⟩
    go_wp2_with fail
    go_ret
    exact ⟨rfl, rfl⟩
  · have h0 : 0 < m.length := by have := (ptsB_true.1 hp).1; omega
    rw [hp] at hpo
    obtain ⟨a2, c2, hX2, hc2, hcl2, hq2⟩ := hsa.row 0 h0
    have k10 := hc2.out noY w (ExtX.refl _) rfl
    have hcol := colsL_pos h0
    rw [<- hcol] at k10
    obtain ⟨y, hy⟩ : ∃ y, colsL m = y := ⟨_, rfl⟩
    rw [hy] at k10 |-
    clear hp hcol hy hc2 hq2 hcl2
    by_cases hxy : xl = y
    · have d2 : ((xl : Int) == (y : Int)) = true := beqT (by omega)
      have hv : Hid (true = (true && decide (xl = y))) := hid (by rw [decide_eq_true hxy]; rfl)
      clear hxy
      go_enter Tryz.func57, Tryz.ntmps57
      go_wp2_with fail
      refine hpo.mono ?_
      rintro e w1 ⟨rfl, rfl⟩
      go_wp2_with (with_reducible refine up_ix1 slRats (by omega) (by assumption) ?_)
      go_ret
      exact ⟨rfl, ret_bool hv.out⟩
    · have d2 : ((xl : Int) == (y : Int)) = false := beqF (by omega)
      have hv : Hid (false = (true && decide (xl = y))) := hid (by rw [decide_eq_false hxy]; rfl)
      clear hxy
      go_enter Tryz.func57, Tryz.ntmps57
      go_wp2_with fail
      refine hpo.mono ?_
      rintro e w1 ⟨rfl, rfl⟩
      go_wp2_with (with_reducible refine up_ix1 slRats (by omega) (by assumption) ?_)
      go_ret
      exact ⟨rfl, ret_bool hv.out⟩
end Go.Proofs.YthipmbmjodhiiaaGreat
namespace Go.Lin
open Go.Lim
def dotN (l m : List Rat) : Nat -> Rat
  | 0 => 0
  | k + 1 => dotN l m k + l.getD k 0 * m.getD k 0
def dotL (l m : List Rat) : Rat := dotN l m l.length
theorem dotN_sm (l m : List Rat) (k : Nat) : dotN l m k = sm k fun q => l.getD q 0 * m.getD q 0 := by
  induction k with
  | zero => rfl
  | succ k ih => unfold dotN sm; rw [ih]
end Go.Lin
namespace Go.Lin
open Go.Lim Go.Rep
theorem brD {D : Nat} {x : List Rat} (hx : BR D x) (hD : 1 <= D) (q : Nat) : hq (x.getD q 0) <= D := by
  rw [List.getD_eq_getElem?_getD]
  by_cases h : q < x.length
  · rw [List.getElem?_eq_getElem h]; exact hx _ (List.getElem_mem _)
  · rw [List.getElem?_eq_none (by omega)]; simp [hq_zero, hD]
theorem dot_bounds2 {B C : Nat} {l m : List Rat} (hl : BR B l) (hm : BR C m) (hB : 1 <= B) (hC : 1 <= C) (hB2 : 1 + l.length * (B + C + 1) <= 68719476736) :
    (∀ k, k <= l.length -> hq (dotN l m k) <= 68719476736) /\ ∀ k, k < l.length -> hq (l.getD k 0 * m.getD k 0) <= 68719476736 := by
  have g : ∀ {D : Nat} {x : List Rat}, BR D x -> 1 <= D -> ∀ q, hq (x.getD q 0) <= D := fun hx hD q => brD hx hD q
  have hp : ∀ k, hq (l.getD k 0 * m.getD k 0) <= B + C := fun k => by
    have := hq_mul (l.getD k 0) (m.getD k 0); have := g hl hB k; have := g hm hC k; omega
  have hd : ∀ k, hq (dotN l m k) <= 1 + k * (B + C + 1) := fun k => by
    induction k with
    | zero => simp [dotN, hq_zero]
    | succ k ih =>
      have := hq_add (dotN l m k) (l.getD k 0 * m.getD k 0)
      have := hp k
      show hq (dotN l m k + l.getD k 0 * m.getD k 0) <= _
      rw [Nat.succ_mul]; omega
  refine ⟨fun k hk => Nat.le_trans (hd k) (Nat.le_trans (Nat.add_le_add_left (Nat.mul_le_mul_right _ hk) 1) hB2), fun k hk => ?_⟩
  have := hp k
  have : B + C + 1 <= l.length * (B + C + 1) := Nat.le_mul_of_pos_left _ (by omega)
  omega
theorem dot_vec {c : Nat} {u z : List Rat} (hu : u.length = c) : dotL u z = dot c (vec u) (vec z) := by
  unfold dotL; rw [dotN_sm, hu]; rfl
theorem fromM_bm {B : Nat} {p : Mat} {x : List Rat} {c : Nat} (hp : BM B p) (hx : BR B x) (hB : 1 <= B) : BM (2 * B + 1) (fromM c p x) := by
  have g : ∀ {x : List Rat}, BR B x -> ∀ q, hq (x.getD q 0) <= B := fun hx q => brD hx hB q
  intro r hr q hq'
  unfold fromM at hr
  obtain ⟨s, hs, rfl⟩ := List.mem_map.1 hr
  obtain ⟨j, hj, rfl⟩ := List.mem_map.1 hq'
  have := hq_sub (s.getD j 0) (x.getD j 0)
  have := g (hp s hs) j
  have := g hx j
  omega
theorem sign_cases (x : Rat) : (0 < x /\ x.num.sign = 1) \/ (x = 0 /\ x.num.sign = 0) \/ (x < 0 /\ x.num.sign = -1) := by
  have hn : 0 <= x.num ↔ 0 <= x := Rat.num_nonneg
  have hz : x.num = 0 ↔ x = 0 := Rat.num_eq_zero
  rcases Int.lt_trichotomy x.num 0 with h | h | h
  · refine .inr (.inr ⟨?_, Int.sign_eq_neg_one_of_neg h⟩)
    have : ¬ 0 <= x := fun h2 => by have := hn.2 h2; omega
    grind
  · exact .inr (.inl ⟨hz.1 h, by rw [h]; rfl⟩)
  · refine .inl ⟨?_, Int.sign_eq_one_of_pos h⟩
    have h1 : 0 <= x := hn.1 (by omega)
    have h2 : ¬ x = 0 := fun h2 => by have := hz.2 h2; omega
    grind
def zeroTo (c : Nat) (us : List Vec) (v : Vec) (i : Nat) : Prop := ∀ j, j < i -> ∀ h : j < us.length, dot c us[j] v = 0
theorem lexOk_pos {c : Nat} {v : Vec} : ∀ {us : List Vec} {i : Nat} (h : i < us.length), zeroTo c us v i -> 0 < dot c us[i] v -> lexOk c us v = true
  | [], _, h, _, _ => by simp at h
  | u :: us, 0, _, _, hp => by simp only [List.getElem_cons_zero] at hp; simp [lexOk, hp]
  | u :: us, i + 1, h, hz, hp => by
    have h0 : dot c u v = 0 := hz 0 (by omega) (by simp)
    have := lexOk_pos (us := us) (i := i) (by simpa using h) (fun j hj hl => hz (j + 1) (by omega) (by simpa using hl)) (by simpa using hp)
    simp [lexOk, h0, this]
theorem lexOk_neg {c : Nat} {v : Vec} : ∀ {us : List Vec} {i : Nat} (h : i < us.length), zeroTo c us v i -> dot c us[i] v < 0 -> lexOk c us v = false
  | [], _, h, _, _ => by simp at h
  | u :: us, 0, _, _, hp => by
    simp only [List.getElem_cons_zero] at hp
    have h1 : ¬ 0 < dot c u v := by grind
    have h2 : ¬ dot c u v = 0 := by grind
    simp [lexOk, h1, h2]
  | u :: us, i + 1, h, hz, hp => by
    have h0 : dot c u v = 0 := hz 0 (by omega) (by simp)
    have := lexOk_neg (us := us) (i := i) (by simpa using h) (fun j hj hl => hz (j + 1) (by omega) (by simpa using hl)) (by simpa using hp)
    have h1 : ¬ (0 : Rat) < 0 := by grind
    simp [lexOk, h0, this, h1]
theorem lexOk_all {c : Nat} {v : Vec} : ∀ {us : List Vec}, zeroTo c us v us.length -> lexOk c us v = true
  | [], _ => rfl
  | u :: us, hz => by
    have h0 : dot c u v = 0 := hz 0 (by simp) (by simp)
    have := lexOk_all (us := us) (fun j hj hl => hz (j + 1) (by simpa using hj) (by simpa using hl))
    simp [lexOk, h0, this]
theorem zeroTo_succ {c : Nat} {us : List Vec} {v : Vec} {i : Nat} (h : zeroTo c us v i) (h2 : ∀ hi : i < us.length, dot c us[i] v = 0) : zeroTo c us v (i + 1) := fun j hj hl => by
  rcases Nat.lt_or_ge j i with h3 | h3
  · exact h j h3 hl
  · obtain rfl : j = i := by omega
    exact h2 hl
def lexN (c : Nat) (us z : List Vec) (k : Nat) : Nat := lexc c us (z.take k)
theorem lexN_zero (c : Nat) (us z : List Vec) : lexN c us z 0 = 0 := by simp [lexN, lexc]
theorem lexN_full {c : Nat} {us z : List Vec} {k : Nat} (h : z.length <= k) : lexN c us z k = lexc c us z := by unfold lexN; rw [List.take_of_length_le h]
theorem lexN_succ {c : Nat} {us z : List Vec} {k : Nat} (h : k < z.length) : lexN c us z (k + 1) = lexN c us z k + (if lexOk c us z[k] then 1 else 0) := by
  unfold lexN lexc
  rw [<- List.take_append_getElem h, List.countP_append, List.countP_singleton]
theorem lexN_le (c : Nat) (us z : List Vec) (k : Nat) : lexN c us z k <= k := by
  unfold lexN lexc
  exact Nat.le_trans List.countP_le_length (by simp; omega)
def cntOk (p : Mat) (y : List Rat) (us : Mat) : Bool := ptsB p && (decide (y.length = colsL p) && decide (∀ i (h : i < us.length), us[i].length = y.length))
noncomputable def cntV (p : Mat) (y : List Rat) (us : Mat) : Nat := if cntOk p y us then lexc (colsL p) (vecs us) (vecs (fromM (colsL p) p y)) else 0
def okE (b : Bool) : Int := if b then 0 else 6
end Go.Lin
namespace Go.Lim
def combs : Nat -> Nat -> Int -> List (List Int)
  | _, 0, _ => [[]]
  | 0, _ + 1, _ => []
  | m + 1, h + 1, lo => (combs m h (lo + 1)).map (lo :: ·) ++ combs m (h + 1) (lo + 1)
theorem combs_length : ∀ (m h : Nat) (lo : Int), (combs m h lo).length = ch m h
  | m, 0, lo => by rw [ch_zero]; cases m <;> rfl
  | 0, h + 1, lo => rfl
  | m + 1, h + 1, lo => by rw [combs, ch, List.length_append, List.length_map, combs_length m h, combs_length m (h + 1)]
def up (lo : Int) : Nat -> List Int
  | 0 => []
  | k + 1 => lo :: up (lo + 1) k
theorem up_length : ∀ (k : Nat) (lo : Int), (up lo k).length = k
  | 0, _ => rfl
  | k + 1, lo => by rw [up, List.length_cons, up_length k]
theorem up_get : ∀ (k : Nat) (lo : Int) (i : Nat) (hi : i < (up lo k).length), (up lo k)[i] = lo + i
  | 0, lo, i, hi => by simp [up] at hi
  | k + 1, lo, 0, hi => by simp [up]
  | k + 1, lo, i + 1, hi => by
    simp only [up, List.getElem_cons_succ]
    rw [up_get k (lo + 1) i]; omega
theorem combs_zero (m : Nat) (lo : Int) : combs m 0 lo = [[]] := by cases m <;> rfl
theorem combs_first : ∀ (m h : Nat) (lo : Int), (combs m h lo)[0]? = if h <= m then some (up lo h) else none
  | m, 0, lo => by rw [combs_zero]; simp [up]
  | 0, h + 1, lo => by simp [combs]
  | m + 1, h + 1, lo => by
    rw [combs]
    have h1 := combs_first m h (lo + 1)
    by_cases hm : h <= m
    · rw [if_pos hm] at h1
      obtain ⟨hl, h2⟩ := List.getElem?_eq_some_iff.1 h1
      rw [List.getElem?_append_left (by simpa using hl), List.getElem?_map, h1, if_pos (by omega)]
      rfl
    · rw [if_neg hm] at h1
      have he : combs m h (lo + 1) = [] := by
        rw [List.getElem?_eq_none_iff] at h1
        exact List.eq_nil_of_length_eq_zero (by omega)
      rw [he, List.map_nil, List.nil_append, combs_first m (h + 1), if_neg (by omega), if_neg (by omega)]
theorem combs_mem : ∀ (m h : Nat) (lo : Int) (l : List Int), l ∈ combs m h lo -> l.length = h /\ (∀ x ∈ l, lo <= x /\ x < lo + m) /\ l.Pairwise (· < ·)
  | m, 0, lo, l, hl => by
    rw [combs_zero, List.mem_singleton] at hl; subst hl; simp
  | 0, h + 1, lo, l, hl => by simp [combs] at hl
  | m + 1, h + 1, lo, l, hl => by
    rw [combs, List.mem_append, List.mem_map] at hl
    rcases hl with ⟨r, hr, rfl⟩ | hl
    · obtain ⟨h1, h2, h3⟩ := combs_mem m h (lo + 1) r hr
      refine ⟨by simp [h1], fun x hx => ?_, List.pairwise_cons.2 ⟨fun x hx => ?_, h3⟩⟩
      · rcases List.mem_cons.1 hx with rfl | hx
        · omega
        · have := h2 x hx; omega
      · have := h2 x hx; omega
    · obtain ⟨h1, h2, h3⟩ := combs_mem m (h + 1) (lo + 1) l hl
      exact ⟨h1, fun x hx => by have := h2 x hx; omega, h3⟩
def nxt (n : Int) : List Int -> Option (List Int)
  | [] => none
  | x :: r => match nxt n r with
    | some r' => some (x :: r')
    | none => if x + r.length + 1 < n then some (up (x + 1) (r.length + 1)) else none
theorem nxt_combs : ∀ (m h : Nat) (lo : Int) (k : Nat) (hk : k < (combs m h lo).length), nxt (lo + m) (combs m h lo)[k] = (combs m h lo)[k + 1]?
  | m, 0, lo, k, hk => by
    have : (combs m 0 lo).length = 1 := by rw [combs_zero]; rfl
    have hk0 : k = 0 := by omega
    subst hk0
    simp [combs_zero, nxt]
  | 0, h + 1, lo, k, hk => by simp [combs] at hk
  | m + 1, h + 1, lo, k, hk => by
    have hA : (List.map (fun x => lo :: x) (combs m h (lo + 1))).length = (combs m h (lo + 1)).length := List.length_map ..
    have e1 : lo + ((m + 1 : Nat) : Int) = lo + 1 + m := by omega
    rw [e1]
    by_cases hlt : k < (combs m h (lo + 1)).length
    · have h1 := nxt_combs m h (lo + 1) k hlt
      have hlen := (combs_mem m h (lo + 1) _ (List.getElem_mem hlt)).1
      simp only [combs]
      rw [List.getElem_append_left (by rw [hA]; exact hlt), List.getElem_map, nxt, h1]
      by_cases hlt2 : k + 1 < (combs m h (lo + 1)).length
      · rw [List.getElem?_append_left (by rw [hA]; exact hlt2), List.getElem?_map, List.getElem?_eq_getElem hlt2]
        rfl
      · rw [List.getElem?_eq_none (by omega)]
        rw [List.getElem?_append_right (by rw [hA]; omega), show k + 1 - (List.map (fun x => lo :: x) (combs m h (lo + 1))).length = 0 by rw [hA]; omega, combs_first m (h + 1)]
        simp only [hlen]
        by_cases hm : h + 1 <= m
        · rw [if_pos hm, if_pos (by omega)]
        · rw [if_neg hm, if_neg (by omega)]
    · have hk' : k - (combs m h (lo + 1)).length < (combs m (h + 1) (lo + 1)).length := by
        simp only [combs, List.length_append, List.length_map] at hk; omega
      have h1 := nxt_combs m (h + 1) (lo + 1) _ hk'
      simp only [combs]
      rw [List.getElem_append_right (by rw [hA]; omega), List.getElem?_append_right (by rw [hA]; omega)]
      simp only [hA]
      rw [h1, show k + 1 - (combs m h (lo + 1)).length = k - (combs m h (lo + 1)).length + 1 by omega]
theorem nxt_none (n : Int) : ∀ (l : List Int), (∀ q (hq : q < l.length), l[q] = n - l.length + q) -> nxt n l = none
  | [], _ => rfl
  | x :: r, h => by
    have h0 := h 0 (by simp)
    have hr := nxt_none n r (fun q hq => by
      have := h (q + 1) (by simpa using hq)
      simp only [List.getElem_cons_succ, List.length_cons] at this
      rw [this]; omega)
    simp only [List.getElem_cons_zero, List.length_cons] at h0
    rw [nxt, hr]
    simp only
    rw [if_neg (by omega)]
theorem nxt_some (n : Int) : ∀ (l : List Int) (p : Nat) (hp : p < l.length), l[p] < n - l.length + p -> (∀ q (hq : q < l.length), p < q -> l[q] = n - l.length + q) -> nxt n l = some (l.take p ++ up (l[p] + 1) (l.length - p))
  | [], p, hp, _, _ => by simp at hp
  | x :: r, 0, hp, h0, h => by
    have hr := nxt_none n r (fun q hq => by
      have := h (q + 1) (by simpa using hq) (by omega)
      simp only [List.getElem_cons_succ, List.length_cons] at this
      rw [this]; omega)
    simp only [List.getElem_cons_zero, List.length_cons] at h0
    rw [nxt, hr]
    simp only
    rw [if_pos (by omega)]
    simp
  | x :: r, p + 1, hp, h0, h => by
    simp only [List.getElem_cons_succ, List.length_cons] at h0
    have hr := nxt_some n r p (by simpa using hp) (by omega) (fun q hq hpq => by
      have := h (q + 1) (by simpa using hq) (by omega)
      simp only [List.getElem_cons_succ, List.length_cons] at this
      rw [this]; omega)
    rw [nxt, hr]
    simp
theorem combs_top (m h : Nat) (lo : Int) : ∀ l ∈ combs m h lo, ∀ q (hq : q < l.length), l[q] <= lo + m - h + q := by
  intro l hl q hq
  obtain ⟨h1, h2, h3⟩ := combs_mem m h lo l hl
  have key : ∀ d, q + d < l.length -> l[q] + d <= l[q + d]! := by
    intro d
    induction d with
    | zero => intro hd; simp [getElem!_pos, hq]
    | succ d ih =>
      intro hd
      have e := ih (by omega)
      have e2 := List.pairwise_iff_getElem.1 h3 (q + d) (q + d + 1) (by omega) (by omega) (by omega)
      rw [getElem!_pos l (q + d) (by omega)] at e
      rw [getElem!_pos l (q + (d + 1)) (by omega)]
      have e3 : l[q + (d + 1)]'(by omega) = l[q + d + 1]'(by omega) := rfl
      rw [e3]; omega
  have e := key (l.length - 1 - q) (by omega)
  rw [getElem!_pos l _ (by omega)] at e
  have e2 := (h2 _ (List.getElem_mem (show q + (l.length - 1 - q) < l.length by omega))).2
  omega
end Go.Lim
namespace Go.Lin
open Go.Lim Go.Rep
theorem zeroB_yes {r : List Rat} (h : ∀ k (hk : k < r.length), r[k] = 0) : zeroB r = true := by
  unfold zeroB
  rw [List.all_eq_true]
  intro x hx
  obtain ⟨k, hk, rfl⟩ := List.getElem_of_mem hx
  simpa using h k hk
theorem zeroB_no {r : List Rat} {k : Nat} (hk : k < r.length) (h : r[k] ≠ 0) : zeroB r = false := by
  unfold zeroB
  rw [List.all_eq_false]
  exact ⟨r[k], List.getElem_mem _, by simpa using h⟩
def unitL (d : Nat) : List Rat := (List.replicate d (0 : Rat)).set 0 1
theorem unitL_len (d : Nat) : (unitL d).length = d := by simp [unitL]
theorem unitL_nz {d : Nat} (hd : 0 < d) : nz d (vec (unitL d)) := ⟨0, hd, by
  unfold vec unitL
  rw [List.getD_eq_getElem?_getD, List.getElem?_eq_getElem (by simpa using hd)]
  simp⟩
theorem unitL_br (d : Nat) : BR 1 (unitL d) := fun q hq' => by
  unfold unitL at hq'
  rcases List.mem_or_eq_of_mem_set hq' with h | rfl
  · rw [List.eq_of_mem_replicate h, hq_zero]; exact Nat.le_refl _
  · decide +kernel
end Go.Lin
namespace Go.Proofs.YthipmbmjodhiiaaGreat
open Go.RowKit Go.Rep Go.Lim Go.Lin
set_option maxRecDepth 100000 in
theorem hzero_any (X : Nat -> Bool) (w : World) (u : Value) (r : List Rat) (hX : HX X w) (hu : RV (mk X w) u r) (hl : r.length <= 1000) : Calls Tryz.prog 88 #[u] w (BOut w (zeroB r)) := by
  obtain ⟨ao, ca, rfl, hca, hsa⟩ := hu
  have hha := hsa.hd
  obtain ⟨c, hc⟩ : ∃ c, r.length = c := ⟨_, rfl⟩
  have hc' := hid hc
  have hno := hid (fun (h : ∀ k (hk : k < r.length), r[k] = 0) => (zeroB_yes h).symm)
  have hye := hid (fun k (hk : k < r.length) (h : r[k] ≠ 0) => (zeroB_no hk h).symm)
  rw [hc] at hl hca hha |-
  clear hc
  go_enter Tryz.func88, Tryz.ntmps88
  go_wp2_with fail
  go_loopw [7] (fun cc wr => ∃ j : Nat, cc = .int .i64 j /\ j <= c /\ Hid (∀ k (hk : k < r.length), k < j -> r[k] = 0) /\ Ext w wr) (fun cc _ => c - (intOf cc).toNat)
  case atStart => exact ⟨0, rfl, Nat.zero_le _, hid (fun p hp h => by omega), ExtX.refl _⟩
  case round =>
    obtain ⟨j, rfl, hj, hzj, hEj⟩ := hrel
    by_cases hlj : j < c
    · have hjr : j < r.length := by rw [hc'.out]; exact hlj
      have hq2 := hsa.mono QV.mono (mk_ext hEj)
      have hXr := hX.ext hEj
      have bx := Bx.new wr #[.bool false, .slice none 0 0, .slice none 0 0] 34
      have hye2 := hid (hye.out j hjr)
      have hzj2 : Hid (r[j] = 0 -> ∀ k (hk : k < r.length), k < j + 1 -> r[k] = 0) := hid fun h k hk hkj => by
        by_cases e : k = j
        · subst e; exact h
        · exact hzj.out k hk (by omega)
      go_wp2_with (first | (with_reducible refine up_ixn slRat (by omega) (by assumption) ?_) | ((with_reducible show wpList _ _ _ (⟨_, .load 34 _, _, _, _, _⟩ :: _) _ _); refine st_loadElem stRat j hq2 hjr rfl (by simp) QV.agg ?_; intro u5 hu5; obtain ⟨s5, a5, n5, c5, d5, m5, e5, rfl⟩ := hu5.shape) | ((with_reducible show wpList _ _ _ (⟨_, .store _ _ _, _, _, _, _⟩ :: _) _ _); refine st_storeBox stRat rfl rfl bx rfl rfl (one3 _ _ _ _ _ _ _) ?_; intro w5 r1 r2; have hE5 : Ext wr w5 := ExtX.box ((ExtX.refl wr).alloc _) r2 (Nat.le_refl _); have k10 := r1.cell 0 rfl; have k11 := r1.cell 1 rfl; have k12 := r1.cell 2 rfl; have hX5 := hXr.ext hE5; have hu6 := mkx QV.mono hu5 hE5))
      refine (qsign X _ _ _ hX5 hu6).mono ?_
      rintro e w7 ⟨hE7, rfl⟩
      have hE9 := hEj.trans (hE5.trans hE7)
      clear k10 k11 k12
      rcases sign_cases r[j] with ⟨hs, hsg⟩ | ⟨hs, hsg⟩ | ⟨hs, hsg⟩
      · have hv := hid (hye2.out (by intro h; rw [h] at hs; exact absurd hs (by grind)))
        rw [hsg]
        clear hs hsg
        go_wp2_with fail
        go_ret
        exact ⟨hE9, ret_bool hv.out⟩
      · have hnx := hid (hzj2.out hs)
        rw [hsg]
        clear hs hsg
        go_wp2_with fail
        go_roundw
        case rel => exact ⟨j + 1, by go_num, by omega, hnx, hE9⟩
        case measure => simp [intOf]; omega
      · have hv := hid (hye2.out (by intro h; rw [h] at hs; exact absurd hs (by grind)))
        rw [hsg]
        clear hs hsg
        go_wp2_with fail
        go_ret
        exact ⟨hE9, ret_bool hv.out⟩
    · have hv := hid (hno.out fun k hk => hzj.out k hk (by rw [hc'.out] at hk; omega))
      go_wp2_with fail
      go_ret
      exact ⟨hEj, ret_bool hv.out⟩
set_option maxRecDepth 100000 in
theorem hunit_any (X : Nat -> Bool) (w : World) (d : Nat) (hX : HX X w) (hd : 0 < d) (hd2 : d <= 1000) : Calls Tryz.prog 89 #[.int .i64 (d : Int)] w (ROut X w RC (unitL d)) := by
  go_enter Tryz.func89, Tryz.ntmps89
  go_wp2_with ((with_reducible show wpList _ _ _ (⟨_, .makeSlice _ _ _, _, _, _, _⟩ :: _) _ _); refine st_make (R := QC) slRat QC.elem (0 : Rat) (fun _ => QC.zero _) X hX w.heap.size (Nat.le_refl _) d rfl rfl rfl (by omega) (by omega) ?_; intro xo w5 hO5 hE5)
  have hxd : Hd xo d := by have := hO5.hd; rw [List.length_replicate] at this; exact this
  have hX5 := hX.ext hE5
  have hXu5 : HX (un X xo) w5 := hO5.unX hX5
  have hv1 : Hid ((((1 : Int) : Rat)) = 1) := hid rfl
  refine (qfrom (un X xo) w5 1 hXu5 (by decide) (by decide)).mono ?_
  rintro e w6 ⟨hE6, u6, rfl, hu6⟩
  rw [hv1.out] at hu6
  have hO6 := hO5.ext0 QC.elem hE6
  go_wp2_with (first | (with_reducible refine up_ixn slRat (by omega) (by assumption) ?_) | ((with_reducible show wpList _ _ _ (⟨_, .store _ _ _, _, _, _, _⟩ :: _) _ _); refine st_store tyRat QC.elem 0 rfl (by simp) hO6 (by simpa using hd) _ 1 rfl hu6 ?_; intro w7 hO7 hE7))
  have hE57 : Ext w w7 := (hE5.trans hE6).own hO6 (Nat.le_refl _) hE7
  have hc7 := hO7.lenCap
  have hlen : ((List.replicate d (0 : Rat)).set 0 1).length = d := by simp
  rw [hlen] at hc7
  have hs7 := hO7.sl QC.elem
  go_ret
  exact ⟨hE57, _, rfl, xo, d, by rw [unitL_len]; rfl, by rw [unitL_len]; exact hc7, hs7⟩
end Go.Proofs.YthipmbmjodhiiaaGreat
namespace Go.Lin
open Go.Lim Go.Rep
def rowsL (z : Mat) (s : List Int) : Mat := s.map fun i => z.getD i.toNat []
theorem rowsL_len (z : Mat) (s : List Int) : (rowsL z s).length = s.length := by simp [rowsL]
theorem rowsL_get {z : Mat} {s : List Int} {j : Nat} (hj : j < (rowsL z s).length) (hs : j < s.length) {i : Nat} (hi : i < z.length) (h : s[j] = (i : Int)) : (rowsL z s)[j] = z[i] := by
  simp [rowsL, h, List.getD_eq_getElem?_getD, hi]
theorem rowsL_mem {z : Mat} {s : List Int} (hb : ∀ x ∈ s, 0 <= x /\ x < (z.length : Int)) : ∀ r ∈ rowsL z s, r ∈ z := fun r hr => by
  unfold rowsL at hr
  obtain ⟨x, hx, rfl⟩ := List.mem_map.1 hr
  have := hb x hx
  have hl : x.toNat < z.length := by omega
  rw [show z.getD x.toNat [] = z[x.toNat] by simp [List.getD_eq_getElem?_getD, hl]]
  exact List.getElem_mem _
end Go.Lin
namespace Go.Proofs.YthipmbmjodhiiaaGreat
open Go.RowKit Go.Rep Go.Lim Go.Lin
def RowsOut (X : Nat -> Bool) (w : World) (m : Mat) (e : Ending) (w' : World) : Prop := Ext w w' /\ ∃ (ao : Option Addr) (cap : Nat), e = .returned (.slice ao m.length cap) /\ OL RV 1 X w.heap.size 27 w' ao cap m
set_option maxRecDepth 100000 in
theorem erows_any (X : Nat -> Bool) (w : World) (u : Value) (z : Mat) (ro : Option Addr) (s : List Int) (rc : Nat) (hX : HX X w) (hu : MV (mk X w) u z) (hs : Sl (IntIn .i64) 1 w.cell? ro s) (hb : ∀ x ∈ s, 0 <= x /\ x < (z.length : Int)) (hl : s.length <= 1000) : Calls Tryz.prog 75 #[u, .slice ro s.length rc] w (RowsOut X w (rowsL z s)) := by
  rw [<- mk_noY] at hs
  obtain ⟨ao, ca, rfl, hca, hsa⟩ := hu
  have hha := hsa.hd
  have hhs := hs.hd
  obtain ⟨M, hM⟩ : ∃ M, rowsL z s = M := ⟨_, rfl⟩
  have hMl : M.length = s.length := by rw [<- hM]; exact rowsL_len z s
  have hMi := hid (show ∀ j (h1 : j < M.length) (h2 : j < s.length) (i : Nat) (h3 : i < z.length), s[j] = (i : Int) -> M[j] = z[i] from fun j h1 h2 i h3 h => by subst hM; exact rowsL_get h1 h2 h3 h)
  rw [hM]
  have hb' := hid hb
  obtain ⟨n, hn⟩ : ∃ n, z.length = n := ⟨_, rfl⟩
  have hn' := hid hn
  obtain ⟨k, hk⟩ : ∃ k, s.length = k := ⟨_, rfl⟩
  have hk' := hid hk
  rw [hk] at hhs hl hMl |-
  rw [hn] at hha hca |-
  have hMl' := hid hMl
  have hMl1 : M.length <= k := by omega
  have hMl2 : k <= M.length := by omega
  clear hM hb hn hk hMl
  go_enter Tryz.func75, Tryz.ntmps75
  go_wp2_with fail
  go_loopw [5, 10] (fun o cc wr => ∃ (i : Nat) (oo : Option Addr) (co : Nat), cc = .int .i64 i /\ o = .slice oo i co /\ i <= k /\ OL RV 1 X w.heap.size 27 wr oo co (M.take i) /\ Ext w wr) (fun _ cc _ => k - (intOf cc).toNat)
  case atStart => exact ⟨0, none, 0, rfl, rfl, Nat.zero_le _, OL.nil _ _ _ _ _ _, ExtX.refl _⟩
  case round =>
    obtain ⟨i, oo, co, rfl, rfl, hi, hO, hE⟩ := hrel
    have hXr : HX X wr := hX.ext hE
    have hbase := hE.size
    by_cases hlt : i < k
    · have his : i < s.length := by rw [hk'.out]; exact hlt
      have hiM : i < M.length := by omega
      have htk := hid (take_snoc M i hiM)
      have hln := hid (len_take (l := M) (i := i) (by omega))
      have hc := (hs.mono (IntIn.mono _) (mk_ext hE)).int i his
      obtain ⟨h1, h2⟩ := hb'.out s[i] (List.getElem_mem _)
      obtain ⟨q, hq⟩ := Int.eq_ofNat_of_zero_le h1
      rw [hn'.out] at h2
      have hqn : q < n := by omega
      have hqz : q < z.length := by rw [hn'.out]; exact hqn
      have hMq := hMi.out i hiM his q hqz hq
      rw [hq] at hc
      have hsr : Sl RV 1 (mk (un X oo) wr) ao z := hsa.old RV.mono hE (fun j hj => hO.ob_lt hj)
      obtain ⟨a1, c1, hX1, hc1, hcl1, hq1⟩ := hsr.row q hqz
      have k00 := hc1.out noY wr (ExtX.refl _) rfl
      obtain ⟨r, hr⟩ : ∃ r, z[q] = r := ⟨_, rfl⟩
      rw [hr] at k00 hcl1 hq1 hMq
      rw [hMq] at htk
      have hRV : RV (mk (un X oo) wr) (.slice a1 r.length c1) r := ⟨a1, c1, rfl, hcl1, hq1⟩
      obtain ⟨d, hd⟩ : ∃ d, r.length = d := ⟨_, rfl⟩
      rw [hd] at k00 hRV
      clear hr hc1 hcl1 hq1 hMq hd h1 h2 hq
      go_wp2_with (first
        | (with_reducible refine up_ix1 slInt (by omega) (by assumption) ?_)
        | (with_reducible refine up_ix1 slRats (by omega) (by assumption) ?_)
        | (at_builtin; refine st_append1n (l := M.take i) slRats rfl RV.elem hbase hXr i hln.out rfl rfl hO (.slice a1 d c1) r rfl hRV (by omega) (by omega) ?_; intro oo2 co2 w7 hO7 hE7 hor))
      have hE8 := hE.own hO (Nat.le_refl _) hE7
      rw [htk.out] at hO7
      go_roundw
      case rel => exact ⟨i + 1, oo2, co2, by go_num, by go_num, by omega, hO7, hE8⟩
      case measure => simp [intOf]; omega
    · have hil : i = k := by omega
      subst hil
      rw [List.take_of_length_le (by omega)] at hO
      go_wp2_with fail
      go_ret
      exact ⟨hE, oo, co, by rw [hMl'.out]; rfl, hO⟩
end Go.Proofs.YthipmbmjodhiiaaGreat
