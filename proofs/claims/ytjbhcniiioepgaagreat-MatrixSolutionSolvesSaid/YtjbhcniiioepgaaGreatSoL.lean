/- reference 03: TakeList. Conditions: at most 2^20 numbers of at most 2^36 digits. reference 03: over. Conditions: at most 2^38 digits. reference 03: FromInt, Sign, Neg. Conditions: at most 2^36 digits. -/
import Derived.Test.YtjbhcniiioepgaaGreatSoK
namespace Go.Proofs.YtjbhcniiioepgaaGreat
open Go.RowKit Go.Rep Go.Lim

theorem take_snoc {α : Type} (l : List α) (i : Nat) (h : i < l.length) : l.take i ++ [l[i]] = l.take (i + 1) := by
  rw [List.take_add_one, List.getElem?_eq_getElem h]; rfl
theorem len_take {α : Type} {l : List α} {i : Nat} (h : i ≤ l.length) : (l.take i).length = i := by simp; omega

set_option maxRecDepth 100000 in
theorem rqtakelist (X : Nat → Bool) (w : World) (u : Value) (l : List Rat) (hX : HX X w) (hu : RV (mk X w) u l) (hl : l.length ≤ 1000000) : Calls Tryz.prog 78 #[u] w (ROut X w RC l) := by
  obtain ⟨ao, ca, rfl, hca, hsa⟩ := hu
  have hha := hsa.hd
  go_enter Tryz.func78, Tryz.ntmps78
  go_wp2_with fail
  go_loopw [3, 4] (fun o c wr => ∃ (i : Nat) (oo : Option Addr) (co : Nat), c = .int .i64 i ∧ o = .slice oo i co ∧ i ≤ l.length ∧ OL QC 3 X w.heap.size 31 wr oo co (l.take i) ∧ Ext w wr) (fun _ c _ => l.length - (intOf c).toNat)
  case atStart => exact ⟨0, none, 0, rfl, rfl, Nat.zero_le _, OL.nil _ _ _ _ _ _, ExtX.refl _⟩
  case round =>
    obtain ⟨i, oo, co, rfl, rfl, hi, hO, hE⟩ := hrel
    have hXr : HX X wr := hX.ext hE
    have hXu : HX (un X oo) wr := hO.unX hXr
    have hbase := hE.size
    by_cases hlt : i < l.length
    · have hsr : Sl QV 3 (mk (un X oo) wr) ao l := hsa.old QV.mono hE (fun j hj => hO.ob_lt hj)
      have htk := hid (take_snoc l i hlt)
      have hln := hid (len_take hi)
      go_wp2_with (first | (with_reducible refine up_ixn slRat (by omega) (by assumption) ?_) | ((with_reducible show wpList _ _ _ (⟨_, .load _ _, _, _, _, _⟩ :: _) _ _); refine st_loadElem stRat i hsr hlt rfl (by simp) QV.agg ?_; intro u5 hu5; obtain ⟨s5, a5, n5, c5, d5, k5, e5, rfl⟩ := hu5.shape))
      refine (rqtake (un X oo) wr _ _ hXu hu5).mono ?_
      rintro e w6 ⟨hE6, u6, rfl, hu6⟩
      obtain ⟨s6, a6, n6, c6, d6, k6, e6, rfl⟩ := hu6.shape
      have hO6 := hO.ext0 QC.elem hE6
      have hb6 := hE6.size
      go_wp2_with (at_builtin; refine st_append1n (l := l.take i) slRat rfl QC.elem (by omega) (hXr.ext hE6) i hln.out rfl rfl hO6 (.agg #[.bool s6, .slice a6 n6 c6, .slice d6 k6 e6]) l[i] rfl hu6 (by omega) (by omega) ?_; intro oo2 co2 w7 hO7 hE7 hor)
      have hE8 := (hE.trans hE6).own hO6 (Nat.le_refl _) hE7
      rw [htk.out] at hO7
      go_roundw
      case rel => exact ⟨i + 1, oo2, co2, by go_num, by go_num, by omega, hO7, hE8⟩
      case measure => simp [intOf]; omega
    · have hil : i = l.length := by omega
      subst hil
      rw [List.take_length] at hO
      have hc := hO.lenCap
      have hs := hO.sl QC.elem
      go_wp2_with fail
      go_ret
      exact ⟨hE, _, rfl, oo, co, rfl, hc, hs⟩
end Go.Proofs.YtjbhcniiioepgaaGreat

namespace Go.Proofs.YtjbhcniiioepgaaGreat
open Go.RowKit Go.Rep Go.Lim

/-- The lowest form of z / k by the two parts' greatest common divisor. -/
theorem over_low (z k : Int) (hk : 0 < k) : ((z : Rat) / (k : Rat)).num = z / (Nat.gcd z.natAbs k.natAbs : Nat) ∧ (((z : Rat) / (k : Rat)).den : Int) = k / (Nat.gcd z.natAbs k.natAbs : Nat) := by
  have h := mk_pos z k hk
  have hk0 : k.natAbs ≠ 0 := by omega
  rw [← h, Rat.num_mkRat, Rat.den_mkRat]
  rw [if_neg hk0, if_neg hk0, Nat.gcd_comm k.natAbs]
  refine ⟨rfl, ?_⟩
  rw [Int.natCast_ediv]
  congr 1
  omega

set_option maxRecDepth 100000 in
set_option maxHeartbeats 1600000 in
theorem rqover (X : Nat → Bool) (w : World) (u v : Value) (x y : Int) (hX : HX X w) (hu : ZC (mk X w) u x) (hv : ZC (mk X w) v y) (hx : lg x.natAbs ≤ 274877906944) (hy : lg y.natAbs ≤ 274877906944) (hy0 : y ≠ 0) : Calls Tryz.prog 113 #[u, v] w (ROut X w QC ((x : Rat) / (y : Rat))) := by
  have hlx := hid hx
  have hly := hid hy
  obtain ⟨s1, a1, n1, c1, rfl⟩ := hu.shape
  obtain ⟨s2, a2, n2, c2, rfl⟩ := hv.shape
  obtain ⟨W, hW, hE, b0, b1, b2, hz⟩ := boxes3 w #[.bool s1, .slice a1 n1 c1] #[.bool s2, .slice a2 n2 c2] #[.bool false, .slice none 0 0, .slice none 0 0] 29 29 31
  have hXW : HX (hidB X w.heap.size 3) W := hX.boxes hz
  have hu1 := ZC.mono _ _ _ _ (le_boxes (nb := 3) hE) hu
  have hv1 := ZC.mono _ _ _ _ (le_boxes (nb := 3) hE) hv
  obtain ⟨b, hb⟩ : ∃ b, w.heap.size = b := ⟨_, rfl⟩
  have hbw : w.heap.size ≤ b := by omega
  rw [hb] at b0 b1 b2 hz hXW hu1 hv1
  have hvz := hv1.zv (Nat.le_trans hy (by decide))
  have huz := hu1.zv (Nat.le_trans hx (by decide))
  have k00 := b0.cell 0 rfl
  have k01 := b0.cell 1 rfl
  have k10 := b1.cell 0 rfl
  have k11 := b1.cell 1 rfl
  have h0 : 0 < y ∨ y < 0 := by omega
  obtain ⟨q, hq'⟩ : ∃ q : Rat, (x : Rat) / (y : Rat) = q := ⟨_, rfl⟩
  rw [hq']
  clear hu hv hx hy
  go_enter Tryz.func113, Tryz.ntmps113
  go_wp2_with fail
  refine (risign (hidB X b 3) W _ _ hXW hvz).mono ?_
  rintro e w5 ⟨hE5, rfl⟩
  have bb0 := b0.ext0 hE5
  have bb1 := b1.ext0 hE5
  have bb2 := b2.ext0 hE5
  clear k00 k01 k10 k11
  rcases h0 with h0 | h0
  · have hI2 : decide (y.sign < 0) = false := by rw [Int.sign_eq_one_of_pos h0]; rfl
    have hk : Hid (0 < y) := hid h0
    generalize y.sign = sgy at *
    have hzn := mkx ZC.mono hu1 hE5
    have hzd := mkx ZC.mono hv1 hE5
    have hXs := hXW.ext hE5
    have hEs := hE.trans hE5
    clear h0 hy0
    generalize hsz : s1 = sz at *
    generalize haz : a1 = az at *
    generalize hnz : n1 = nz at *
    generalize hcz : c1 = cz at *
    generalize hsk : s2 = sk at *
    generalize hak : a2 = ak at *
    generalize hnk : n2 = nk at *
    generalize hck : c2 = ck at *
    generalize hwz : w5 = ws at *
    generalize hxz : x = z at *
    generalize hyk : y = k at *
    have bz0 := bb0
    have bz1 := bb1
    have bz2 := bb2
    have bzn := hlx
    have bzk := hly
    have hres := hid hq'
    clear hq'
    have k00 := bz0.cell 0 rfl
    have k01 := bz0.cell 1 rfl
    have k10 := bz1.cell 0 rfl
    have k11 := bz1.cell 1 rfl
    have hgp := hid (Nat.gcd_pos_of_pos_right z.natAbs (show 0 < k.natAbs by have := hk.out; omega))
    have hgz := hid (show ((Nat.gcd z.natAbs k.natAbs : Nat) : Int) ∣ z from Int.ofNat_dvd_left.2 (Nat.gcd_dvd_left _ _))
    have hgk := hid (show ((Nat.gcd z.natAbs k.natAbs : Nat) : Int) ∣ k from Int.ofNat_dvd_left.2 (Nat.gcd_dvd_right _ _))
    have hgl := hid (show lg (Nat.gcd z.natAbs k.natAbs) ≤ 274877906944 from Nat.le_trans (lg_mono (Nat.gcd_le_right _ (by have := hk.out; omega))) bzk.out)
    have hlow := hid (over_low z k hk.out)
    obtain ⟨g, hg⟩ : ∃ g, Nat.gcd z.natAbs k.natAbs = g := ⟨_, rfl⟩
    rw [hg] at hgp hgz hgk hgl hlow
    replace hg := hid hg
    go_wp2_with fail
    refine (rigcd (hidB X b 3) ws _ _ _ _ hXs (hzn.zv (Nat.le_trans bzn.out (by decide))) (hzd.zv (Nat.le_trans bzk.out (by decide))) bzn.out bzk.out).mono ?_
    rintro e6 w6 ⟨hE6, ug, rfl, hug⟩
    rw [hg.out] at hug
    obtain ⟨ag, cg, lgd, rfl, g1, g2, g3⟩ := hug
    have bg := Bx.new w6 #[.bool false, .slice none 0 0] 29
    have hXg := hXs.ext hE6
    clear k00 k01 k10 k11
    go_wp2_with ((with_reducible show wpList _ _ _ (⟨_, .store _ _ _, _, _, _, _⟩ :: _) _ _); refine st_storeBox stInt rfl rfl bg rfl rfl (one2 _ _ _ _) ?_; intro w7 r1 r2; have hE7 : Ext w6 w7 := ExtX.box ((ExtX.refl w6).alloc _) r2 (Nat.le_refl _); have t7 := hE6.trans hE7; have k00 := (bz0.ext0 t7).cell 0 rfl; have k01 := (bz0.ext0 t7).cell 1 rfl; have k50 := r1.cell 0 rfl; have k51 := r1.cell 1 rfl)
    have hX7 := (hXg.ext hE7)
    have hug7 : ZC (mk (hidB X b 3) w7) (.agg #[.bool false, .slice ag lgd.length cg]) (g : Int) := NC.zc (NC.mono _ _ _ _ (mk_ext hE7) ⟨ag, cg, lgd, rfl, g1, g2, g3⟩)
    have hz7 := mkx ZC.mono hzn t7
    have hgl2 : Hid (lg ((g : Int)).natAbs ≤ 274877906944) := hid (by rw [Int.natAbs_natCast]; exact hgl.out)
    have hgpI : Hid ((0 : Int) < (g : Int)) := hid (by have := hgp.out; omega)
    refine (ridiv (hidB X b 3) w7 _ _ z g hX7 (hz7.zv (Nat.le_trans bzn.out (by decide))) (hug7.zv (Nat.le_trans hgl2.out (by decide))) bzn.out hgl2.out hgpI.out hgz.out).mono ?_
    rintro e8 w8 ⟨hE8, up, sv, av, nv, cv, rfl, hup⟩
    obtain ⟨sp, ap, np, cp, rfl⟩ := hup.shape
    obtain ⟨W8, hW8, hEb8, bp, br, hz8⟩ := boxes2 w8 #[.bool false, .slice none 0 0] #[.bool false, .slice none 0 0] 29 29
    subst hW8
    clear k00 k01 k50 k51
    go_wp2_with ((with_reducible show wpList _ _ _ (⟨_, .store _ _ _, _, _, _, _⟩ :: _) _ _); first | (refine st_storeBox stInt rfl rfl bp rfl rfl (one2 _ _ _ _) ?_; intro w9 p1 p2; have br' := br.ext p2 (ob_other (by omega))) | (refine st_storeBox stInt rfl rfl br' rfl rfl (one2 _ _ _ _) ?_; intro w10 p3 p4; have hE10 : Ext w8 w10 := ExtX.box (ExtX.box hEb8 p2 (Nat.le_refl _)) p4 (by omega); have t10 := t7.trans (hE8.trans hE10); have k10 := (bz1.ext0 t10).cell 0 rfl; have k11 := (bz1.ext0 t10).cell 1 rfl; have r10 := r1.ext0 (hE8.trans hE10); have k50 := r10.cell 0 rfl; have k51 := r10.cell 1 rfl; have p10 := p1.ext p4 (ob_other (by omega))))
    have hup10 := mkx ZC.mono hup hE10
    have hX10 := (hX7.ext hE8).ext hE10
    have hk10 := mkx ZC.mono hzd t10
    have hug10 := mkx ZC.mono (mkx ZC.mono hug7 hE8) hE10
    refine (ridiv (hidB X b 3) w10 _ _ k g hX10 (hk10.zv (Nat.le_trans bzk.out (by decide))) (hug10.zv (Nat.le_trans hgl2.out (by decide))) bzk.out hgl2.out hgpI.out hgk.out).mono ?_
    rintro e11 w11 ⟨hE11, uq, sv2, av2, nv2, cv2, rfl, huq⟩
    obtain ⟨sq, aq, nq, cq, rfl⟩ := huq.shape
    obtain ⟨W11, hW11, hEb11, bq, br2, hz11⟩ := boxes2 w11 #[.bool false, .slice none 0 0] #[.bool false, .slice none 0 0] 29 29
    subst hW11
    clear k10 k11 k50 k51 br' br
    go_wp2_with ((with_reducible show wpList _ _ _ (⟨_, .store _ _ _, _, _, _, _⟩ :: _) _ _); first | (refine st_storeBox stInt rfl rfl bq rfl rfl (one2 _ _ _ _) ?_; intro w12 p5 p6; have br' := br2.ext p6 (ob_other (by omega))) | (refine st_storeBox stInt rfl rfl br' rfl rfl (one2 _ _ _ _) ?_; intro w13 p7 p8; have hE13 : Ext w11 w13 := ExtX.box (ExtX.box hEb11 p6 (Nat.le_refl _)) p8 (by omega); have t13 := t10.trans (hE11.trans hE13); have q13 := p5.ext p8 (ob_other (by omega)); have k90 := q13.cell 0 rfl; have k91 := q13.cell 1 rfl; have f90 := q13.frozen 0; have f91 := q13.frozen 1; have p13 := p10.ext0 (hE11.trans hE13); have k60 := p13.cell 0 rfl; have k61 := p13.cell 1 rfl))
    have huq13 := mkx ZC.mono huq hE13
    have hup13 := mkx ZC.mono (mkx ZC.mono hup10 hE11) hE13
    have hmq := huq13.mag
    have hkq : Hid (lg (k / (g : Int)).natAbs ≤ 1099511627776) := hid (by
      have h1 := hlow.out.2
      have : (k / (g : Int)).natAbs ≤ k.natAbs := by
        have := Int.natAbs_ediv_le_natAbs k (g : Int); exact this
      exact Nat.le_trans (lg_mono this) (Nat.le_trans bzk.out (by decide)))
    have bz13 := bz2.ext0 t13
    have hEs13 := hEs.trans t13
    refine (rqone _ _ _ _ hmq hkq.out).mono ?_
    rintro e14 w14 ⟨rfl, rfl⟩
    have hkg : Hid ((q.den : Int) = k / (g : Int)) := hid (by rw [← hres.out]; exact hlow.out.2)
    have hzg : Hid (q.num = z / (g : Int)) := hid (by rw [← hres.out]; exact hlow.out.1)
    by_cases h1 : (k / (g : Int)).natAbs = 1
    · have hd1 : Hid (dn q = 0) := hid ((dn_zero q).2 (by have := hkg.out; have := q.den_pos; omega))
      rw [decide_eq_true h1]
      clear h1
      go_upto_region 8 with (fail)
      obtain ⟨m1, m2⟩ := setCell_block q13 (.slice none 0 0) (i := 1) (by simp)
      obtain ⟨w14, hw14⟩ : ∃ w14, w13.setCell ⟨w11.heap.size, 1, none⟩ (.slice none 0 0) = w14 := ⟨_, rfl⟩
      rw [hw14] at m1 m2 ⊢
      have hE14 : Ext w11 w14 := ExtX.box hE13 m2 (Nat.le_refl _)
      have t14 := t10.trans (hE11.trans hE14)
      have bz14 := bz2.ext0 t14
      have p14 := p10.ext0 (hE11.trans hE14)
      clear k60 k61 k90 k91 f90 f91
      have k60 : w14.cell? ⟨w8.heap.size, 0, none⟩ = some (.bool sp) := p14.cell 0 rfl
      have k61 : w14.cell? ⟨w8.heap.size, 1, none⟩ = some (.slice ap np cp) := p14.cell 1 rfl
      have k91 : w14.cell? ⟨w11.heap.size, 1, none⟩ = some (.slice none 0 0) := m1.cell 1 rfl
      have hup14 := mkx ZC.mono (mkx ZC.mono hup10 hE11) hE14
      go_wp2_with ((with_reducible show wpList _ _ _ (⟨_, .store _ _ _, _, _, _, _⟩ :: _) _ _); refine st_storeBox stRat rfl rfl bz14 rfl rfl (one3 _ _ _ _ _ _ _) ?_; intro w15 r3 r4)
      have hfz : ZC (mk (hidB X b 3) w14) (.agg #[.bool sp, .slice ap np cp]) q.num := by rw [hzg.out]; exact hup14
      have hfd : NC (mk (hidB X b 3) w14) (.slice none 0 0) (dn q) := by rw [hd1.out]; exact NC.zero _
      have h7 := QC.mono _ _ _ _ le_unbox (QC.mono _ _ _ _ (le_store r4 (by omega) (by omega)) (QC.of hfz hfd))
      exact bodyPost_ret (results_box rfl rfl stRat r3 rfl) rfl ⟨ExtX.box (hEs.trans t14) r4 (by omega), _, rfl, h7⟩
    · have hd1 : Hid (dn q = (k / (g : Int)).natAbs) := hid (by
        have h2 := hkg.out
        unfold dn; rw [if_neg (by omega)]; omega)
      rw [decide_eq_false h1]
      clear h1
      go_wp2_with ((with_reducible show wpList _ _ _ (⟨_, .store _ _ _, _, _, _, _⟩ :: _) _ _); refine st_storeBox stRat rfl rfl bz13 rfl rfl (one3 _ _ _ _ _ _ _) ?_; intro w15 r3 r4)
      have hfz : ZC (mk (hidB X b 3) w13) (.agg #[.bool sp, .slice ap np cp]) q.num := by rw [hzg.out]; exact hup13
      have hfd : NC (mk (hidB X b 3) w13) (.slice aq nq cq) (dn q) := by rw [hd1.out]; exact hmq
      have h7 := QC.mono _ _ _ _ le_unbox (QC.mono _ _ _ _ (le_store r4 (by omega) (by omega)) (QC.of hfz hfd))
      exact bodyPost_ret (results_box rfl rfl stRat r3 rfl) rfl ⟨ExtX.box hEs13 r4 (by omega), _, rfl, h7⟩
  · have hI2 : decide (y.sign < 0) = true := by rw [Int.sign_eq_neg_one_of_neg h0]; rfl
    have hkn : Hid (0 < -y) := hid (by omega)
    generalize y.sign = sgy at *
    have hEd : Ext w5 w5.drew := (ExtX.refl w5).drew
    have hXd : HX (hidB X b 3) w5.drew := HX.ext (HX.ext hXW hE5) hEd
    have hud : ZV (mk (hidB X b 3) w5.drew) (.agg #[.bool s1, .slice a1 n1 c1]) x := mkx ZV.mono huz (hE5.trans hEd)
    have hvd : ZV (mk (hidB X b 3) w5.drew) (.agg #[.bool s2, .slice a2 n2 c2]) y := mkx ZV.mono hvz (hE5.trans hEd)
    have k00 := bb0.cell 0 rfl
    have k01 := bb0.cell 1 rfl
    have k10 := bb1.cell 0 rfl
    have k11 := bb1.cell 1 rfl
    have hres0 : Hid (((-x : Int) : Rat) / ((-y : Int) : Rat) = q) := hid (by
      rw [← hq', Rat.intCast_neg, Rat.intCast_neg]; have : (y : Rat) ≠ 0 := by exact_mod_cast hy0
      grind)
    have bzn : Hid (lg (-x).natAbs ≤ 274877906944) := hid (by rw [Int.natAbs_neg]; exact hlx.out)
    have bzk : Hid (lg (-y).natAbs ≤ 274877906944) := hid (by rw [Int.natAbs_neg]; exact hly.out)
    clear h0 hy0 hq'
    go_upto_region 2 with (fail)
    go_region_with (first | (go_at_call 166; (with_reducible refine (rineg (hidB X b 3) w5.drew _ x hXd hud).mono ?_); rintro e w6 ⟨hE6, u6, rfl, s5, a5, c5, l5, rfl, h51, h52, h53⟩; have b60 := bb0.ext0 (hEd.trans hE6); have b61 := bb1.ext0 (hEd.trans hE6); have e00 := b60.cell 0 rfl; have e01 := b60.cell 1 rfl; have e10 := b61.cell 0 rfl; have e11 := b61.cell 1 rfl) | (go_at_call 166; (with_reducible refine (rineg (hidB X b 3) w6 _ y (HX.ext hXd hE6) (mkx ZV.mono hvd hE6)).mono ?_); rintro e w7 ⟨hE7, u7, rfl, s6, a6, c6, l6, rfl, h61, h62, h63⟩; have b70 := b60.ext0 hE7; have b71 := b61.ext0 hE7; have g00 := b70.cell 0 rfl; have g01 := b70.cell 1 rfl; have g10 := b71.cell 0 rfl; have g11 := b71.cell 1 rfl; have fr0 := b70.frozen 0; have fr1 := b70.frozen 1; have fr2 := b71.frozen 0; have fr3 := b71.frozen 1))
    all_goals
      obtain ⟨ws, hwf, bz0, bz1, qq2, hEs, q4⟩ := two_stores (X := X) (nb := 3) b70 b71 (hE.trans (hE5.trans ((hEd.trans hE6).trans hE7))) hbw (by omega) (.bool s5) (.slice a5 l5.length c5) (.bool s6) (.slice a6 l6.length c6)
      rw [hwf]
      have hzn : ZC (mk (hidB X b 3) ws) (.agg #[.bool s5, .slice a5 l5.length c5]) (-x) := ⟨s5, a5, c5, l5, rfl, h51, h52, (h53.mono (NatIn.mono _) (mk_ext hE7)).mono (NatIn.mono _) q4⟩
      have hzd : ZC (mk (hidB X b 3) ws) (.agg #[.bool s6, .slice a6 l6.length c6]) (-y) := ⟨s6, a6, c6, l6, rfl, h61, h62, h63.mono (NatIn.mono _) q4⟩
      have bz2 := qq2 (b + 1 + 1) _ _ (by omega) (by omega) (((bb2.ext0 hEd).ext0 hE6).ext0 hE7)
      have hzz : w.heap.size + 3 ≤ ws.heap.size := by have := bz2.lt; omega
      have hXs : HX (hidB X b 3) ws := hX.boxes' hEs (by have := hzz; omega) hzz
      clear e00 e01 e10 e11 g00 g01 g10 g11 fr0 fr1 fr2 fr3 k00 k01 k10 k11 hwf b60 b61 b70 b71 h51 h52 h53 h61 h62 h63
      have hres := hres0
      have hk := hkn
      generalize hsz : s5 = sz at *
      generalize haz : a5 = az at *
      generalize hnz : l5.length = nz at *
      generalize hcz : c5 = cz at *
      generalize hsk : s6 = sk at *
      generalize hak : a6 = ak at *
      generalize hnk : l6.length = nk at *
      generalize hck : c6 = ck at *
      generalize hxz : -x = z at *
      generalize hyk : -y = k at *
      have k00 := bz0.cell 0 rfl
      have k01 := bz0.cell 1 rfl
      have k10 := bz1.cell 0 rfl
      have k11 := bz1.cell 1 rfl
      have hgp := hid (Nat.gcd_pos_of_pos_right z.natAbs (show 0 < k.natAbs by have := hk.out; omega))
      have hgz := hid (show ((Nat.gcd z.natAbs k.natAbs : Nat) : Int) ∣ z from Int.ofNat_dvd_left.2 (Nat.gcd_dvd_left _ _))
      have hgk := hid (show ((Nat.gcd z.natAbs k.natAbs : Nat) : Int) ∣ k from Int.ofNat_dvd_left.2 (Nat.gcd_dvd_right _ _))
      have hgl := hid (show lg (Nat.gcd z.natAbs k.natAbs) ≤ 274877906944 from Nat.le_trans (lg_mono (Nat.gcd_le_right _ (by have := hk.out; omega))) bzk.out)
      have hlow := hid (over_low z k hk.out)
      obtain ⟨g, hg⟩ : ∃ g, Nat.gcd z.natAbs k.natAbs = g := ⟨_, rfl⟩
      rw [hg] at hgp hgz hgk hgl hlow
      replace hg := hid hg
      go_wp2_with fail
      refine (rigcd (hidB X b 3) ws _ _ _ _ hXs (hzn.zv (Nat.le_trans bzn.out (by decide))) (hzd.zv (Nat.le_trans bzk.out (by decide))) bzn.out bzk.out).mono ?_
      rintro e6 w6 ⟨hE6, ug, rfl, hug⟩
      rw [hg.out] at hug
      obtain ⟨ag, cg, lgd, rfl, g1, g2, g3⟩ := hug
      have bg := Bx.new w6 #[.bool false, .slice none 0 0] 29
      have hXg := hXs.ext hE6
      clear k00 k01 k10 k11
      go_wp2_with ((with_reducible show wpList _ _ _ (⟨_, .store _ _ _, _, _, _, _⟩ :: _) _ _); refine st_storeBox stInt rfl rfl bg rfl rfl (one2 _ _ _ _) ?_; intro w7 r1 r2; have hE7 : Ext w6 w7 := ExtX.box ((ExtX.refl w6).alloc _) r2 (Nat.le_refl _); have t7 := hE6.trans hE7; have k00 := (bz0.ext0 t7).cell 0 rfl; have k01 := (bz0.ext0 t7).cell 1 rfl; have k50 := r1.cell 0 rfl; have k51 := r1.cell 1 rfl)
      have hX7 := (hXg.ext hE7)
      have hug7 : ZC (mk (hidB X b 3) w7) (.agg #[.bool false, .slice ag lgd.length cg]) (g : Int) := NC.zc (NC.mono _ _ _ _ (mk_ext hE7) ⟨ag, cg, lgd, rfl, g1, g2, g3⟩)
      have hz7 := mkx ZC.mono hzn t7
      have hgl2 : Hid (lg ((g : Int)).natAbs ≤ 274877906944) := hid (by rw [Int.natAbs_natCast]; exact hgl.out)
      have hgpI : Hid ((0 : Int) < (g : Int)) := hid (by have := hgp.out; omega)
      refine (ridiv (hidB X b 3) w7 _ _ z g hX7 (hz7.zv (Nat.le_trans bzn.out (by decide))) (hug7.zv (Nat.le_trans hgl2.out (by decide))) bzn.out hgl2.out hgpI.out hgz.out).mono ?_
      rintro e8 w8 ⟨hE8, up, sv, av, nv, cv, rfl, hup⟩
      obtain ⟨sp, ap, np, cp, rfl⟩ := hup.shape
      obtain ⟨W8, hW8, hEb8, bp, br, hz8⟩ := boxes2 w8 #[.bool false, .slice none 0 0] #[.bool false, .slice none 0 0] 29 29
      subst hW8
      clear k00 k01 k50 k51
      go_wp2_with ((with_reducible show wpList _ _ _ (⟨_, .store _ _ _, _, _, _, _⟩ :: _) _ _); first | (refine st_storeBox stInt rfl rfl bp rfl rfl (one2 _ _ _ _) ?_; intro w9 p1 p2; have br' := br.ext p2 (ob_other (by omega))) | (refine st_storeBox stInt rfl rfl br' rfl rfl (one2 _ _ _ _) ?_; intro w10 p3 p4; have hE10 : Ext w8 w10 := ExtX.box (ExtX.box hEb8 p2 (Nat.le_refl _)) p4 (by omega); have t10 := t7.trans (hE8.trans hE10); have k10 := (bz1.ext0 t10).cell 0 rfl; have k11 := (bz1.ext0 t10).cell 1 rfl; have r10 := r1.ext0 (hE8.trans hE10); have k50 := r10.cell 0 rfl; have k51 := r10.cell 1 rfl; have p10 := p1.ext p4 (ob_other (by omega))))
      have hup10 := mkx ZC.mono hup hE10
      have hX10 := (hX7.ext hE8).ext hE10
      have hk10 := mkx ZC.mono hzd t10
      have hug10 := mkx ZC.mono (mkx ZC.mono hug7 hE8) hE10
      refine (ridiv (hidB X b 3) w10 _ _ k g hX10 (hk10.zv (Nat.le_trans bzk.out (by decide))) (hug10.zv (Nat.le_trans hgl2.out (by decide))) bzk.out hgl2.out hgpI.out hgk.out).mono ?_
      rintro e11 w11 ⟨hE11, uq, sv2, av2, nv2, cv2, rfl, huq⟩
      obtain ⟨sq, aq, nq, cq, rfl⟩ := huq.shape
      obtain ⟨W11, hW11, hEb11, bq, br2, hz11⟩ := boxes2 w11 #[.bool false, .slice none 0 0] #[.bool false, .slice none 0 0] 29 29
      subst hW11
      clear k10 k11 k50 k51 br' br
      go_wp2_with ((with_reducible show wpList _ _ _ (⟨_, .store _ _ _, _, _, _, _⟩ :: _) _ _); first | (refine st_storeBox stInt rfl rfl bq rfl rfl (one2 _ _ _ _) ?_; intro w12 p5 p6; have br' := br2.ext p6 (ob_other (by omega))) | (refine st_storeBox stInt rfl rfl br' rfl rfl (one2 _ _ _ _) ?_; intro w13 p7 p8; have hE13 : Ext w11 w13 := ExtX.box (ExtX.box hEb11 p6 (Nat.le_refl _)) p8 (by omega); have t13 := t10.trans (hE11.trans hE13); have q13 := p5.ext p8 (ob_other (by omega)); have k90 := q13.cell 0 rfl; have k91 := q13.cell 1 rfl; have f90 := q13.frozen 0; have f91 := q13.frozen 1; have p13 := p10.ext0 (hE11.trans hE13); have k60 := p13.cell 0 rfl; have k61 := p13.cell 1 rfl))
      have huq13 := mkx ZC.mono huq hE13
      have hup13 := mkx ZC.mono (mkx ZC.mono hup10 hE11) hE13
      have hmq := huq13.mag
      have hkq : Hid (lg (k / (g : Int)).natAbs ≤ 1099511627776) := hid (by
        have h1 := hlow.out.2
        have : (k / (g : Int)).natAbs ≤ k.natAbs := by
          have := Int.natAbs_ediv_le_natAbs k (g : Int); exact this
        exact Nat.le_trans (lg_mono this) (Nat.le_trans bzk.out (by decide)))
      have bz13 := bz2.ext0 t13
      have hEs13 := hEs.trans t13
      refine (rqone _ _ _ _ hmq hkq.out).mono ?_
      rintro e14 w14 ⟨rfl, rfl⟩
      have hkg : Hid ((q.den : Int) = k / (g : Int)) := hid (by rw [← hres.out]; exact hlow.out.2)
      have hzg : Hid (q.num = z / (g : Int)) := hid (by rw [← hres.out]; exact hlow.out.1)
      by_cases h1 : (k / (g : Int)).natAbs = 1
      · have hd1 : Hid (dn q = 0) := hid ((dn_zero q).2 (by have := hkg.out; have := q.den_pos; omega))
        rw [decide_eq_true h1]
        clear h1
        go_upto_region 8 with (fail)
        obtain ⟨m1, m2⟩ := setCell_block q13 (.slice none 0 0) (i := 1) (by simp)
        obtain ⟨w14, hw14⟩ : ∃ w14, w13.setCell ⟨w11.heap.size, 1, none⟩ (.slice none 0 0) = w14 := ⟨_, rfl⟩
        rw [hw14] at m1 m2 ⊢
        have hE14 : Ext w11 w14 := ExtX.box hE13 m2 (Nat.le_refl _)
        have t14 := t10.trans (hE11.trans hE14)
        have bz14 := bz2.ext0 t14
        have p14 := p10.ext0 (hE11.trans hE14)
        clear k60 k61 k90 k91 f90 f91
        have k60 : w14.cell? ⟨w8.heap.size, 0, none⟩ = some (.bool sp) := p14.cell 0 rfl
        have k61 : w14.cell? ⟨w8.heap.size, 1, none⟩ = some (.slice ap np cp) := p14.cell 1 rfl
        have k91 : w14.cell? ⟨w11.heap.size, 1, none⟩ = some (.slice none 0 0) := m1.cell 1 rfl
        have hup14 := mkx ZC.mono (mkx ZC.mono hup10 hE11) hE14
        go_wp2_with ((with_reducible show wpList _ _ _ (⟨_, .store _ _ _, _, _, _, _⟩ :: _) _ _); refine st_storeBox stRat rfl rfl bz14 rfl rfl (one3 _ _ _ _ _ _ _) ?_; intro w15 r3 r4)
        have hfz : ZC (mk (hidB X b 3) w14) (.agg #[.bool sp, .slice ap np cp]) q.num := by rw [hzg.out]; exact hup14
        have hfd : NC (mk (hidB X b 3) w14) (.slice none 0 0) (dn q) := by rw [hd1.out]; exact NC.zero _
        have h7 := QC.mono _ _ _ _ le_unbox (QC.mono _ _ _ _ (le_store r4 (by omega) (by omega)) (QC.of hfz hfd))
        exact bodyPost_ret (results_box rfl rfl stRat r3 rfl) rfl ⟨ExtX.box (hEs.trans t14) r4 (by omega), _, rfl, h7⟩
      · have hd1 : Hid (dn q = (k / (g : Int)).natAbs) := hid (by
          have h2 := hkg.out
          unfold dn; rw [if_neg (by omega)]; omega)
        rw [decide_eq_false h1]
        clear h1
        go_wp2_with ((with_reducible show wpList _ _ _ (⟨_, .store _ _ _, _, _, _, _⟩ :: _) _ _); refine st_storeBox stRat rfl rfl bz13 rfl rfl (one3 _ _ _ _ _ _ _) ?_; intro w15 r3 r4)
        have hfz : ZC (mk (hidB X b 3) w13) (.agg #[.bool sp, .slice ap np cp]) q.num := by rw [hzg.out]; exact hup13
        have hfd : NC (mk (hidB X b 3) w13) (.slice aq nq cq) (dn q) := by rw [hd1.out]; exact hmq
        have h7 := QC.mono _ _ _ _ le_unbox (QC.mono _ _ _ _ (le_store r4 (by omega) (by omega)) (QC.of hfz hfd))
        exact bodyPost_ret (results_box rfl rfl stRat r3 rfl) rfl ⟨ExtX.box hEs13 r4 (by omega), _, rfl, h7⟩
end Go.Proofs.YtjbhcniiioepgaaGreat

namespace Go.Proofs.YtjbhcniiioepgaaGreat
open Go.RowKit Go.Rep Go.Lim

theorem rqfrom (X : Nat → Bool) (w : World) (v : Int) (hX : HX X w) (h1 : -9223372036854775808 ≤ v) (h2 : v ≤ 9223372036854775807) : Calls Tryz.prog 61 #[.int .i64 v] w (ROut X w QC v) := by
  obtain ⟨W, hW, hE, b0, hz⟩ := boxes1 w #[.bool false, .slice none 0 0, .slice none 0 0] 31
  have hXW : HX (hidB X w.heap.size 1) W := hX.boxes hz
  obtain ⟨b, hb⟩ : ∃ b, w.heap.size = b := ⟨_, rfl⟩
  have hbw : w.heap.size ≤ b := by omega
  rw [hb] at b0 hz hXW
  have h1' := hid h1
  have h2' := hid h2
  clear h1 h2
  go_enter Tryz.func61, Tryz.ntmps61
  go_wp2_with fail
  refine (rifrom (hidB X b 1) W v hXW h1'.out h2'.out).mono ?_
  rintro e1 w1 ⟨hE1, u1, rfl, s6, a6, c6, l6, rfl, h61, h62, h63⟩
  have b1' := b0.ext0 hE1
  have hcq := CanQ.ofInt h62
  go_wp2_with ((with_reducible show wpList _ _ _ (⟨_, .store _ _ _, _, _, _, _⟩ :: _) _ _); refine st_storeBox stRat rfl rfl b1' rfl rfl (one3 _ _ _ _ _ _ _) ?_; intro w7 r1 r2)
  have h7 := (h63.mono (NatIn.mono _) (le_store r2 (by omega) (by omega))).mono (NatIn.mono _) le_unbox
  exact bodyPost_ret (results_box rfl rfl stRat r1 rfl) rfl ⟨ExtX.box (hE.trans hE1) r2 (by omega), _, rfl, s6, a6, c6, l6, none, 0, [], rfl, h61, Nat.le_refl _, hcq, h7, Sl.nil _ _ _ _⟩
set_option maxRecDepth 100000 in
theorem rqsign (X : Nat → Bool) (w : World) (u : Value) (x : Rat) (hX : HX X w) (hu : QV (mk X w) u x) : Calls Tryz.prog 19 #[u] w (IntOut w x.num.sign) := by
  have hlx := hid hu.hq
  obtain ⟨s1, a1, n1, c1, d1, k1, e1, rfl⟩ := hu.shape
  obtain ⟨W, hW, hE, b0, hz⟩ := boxes1 w #[.bool s1, .slice a1 n1 c1, .slice d1 k1 e1] 31
  have hXW : HX X W := hX.ext hE
  have hu1 := mkx QV.mono hu hE
  obtain ⟨b, hb⟩ : ∃ b, w.heap.size = b := ⟨_, rfl⟩
  rw [hb] at b0 hz
  have k00 := b0.cell 0 rfl
  have k01 := b0.cell 1 rfl
  have k02 := b0.cell 2 rfl
  have hfl := run_fieldNum
  clear hu
  go_enter Tryz.func19, Tryz.ntmps19
  go_wp2_with fail
  refine (rqtake X W _ x hXW hu1).mono ?_
  rintro ee w5 ⟨hE5, u5, rfl, hq5⟩
  obtain ⟨s5, a5, n5, c5, d5, k5, e5, rfl⟩ := hq5.shape
  have hz5 := hq5.num.1.zv (Nat.le_trans (Nat.le_trans (hq_num x) hlx.out) (by omega))
  clear k00 k01 k02
  go_wp2_with fail
  refine (risign X w5 _ _ (hXW.ext hE5) hz5).mono ?_
  rintro ee w6 ⟨hE6, rfl⟩
  go_wp2_with fail
  go_ret
  exact ⟨hE.trans (hE5.trans hE6), rfl⟩
set_option maxRecDepth 100000 in
theorem rqneg (X : Nat → Bool) (w : World) (u : Value) (x : Rat) (hX : HX X w) (hu : QV (mk X w) u x) : Calls Tryz.prog 112 #[u] w (ROut X w QC (-x)) := by
  have hlx := hid hu.hq
  obtain ⟨s1, a1, n1, c1, d1, k1, e1, rfl⟩ := hu.shape
  obtain ⟨W, hW, hE, b0, b1, hz⟩ := boxes2 w #[.bool s1, .slice a1 n1 c1, .slice d1 k1 e1] #[.bool false, .slice none 0 0, .slice none 0 0] 31 31
  have hXW : HX (hidB X w.heap.size 2) W := hX.boxes hz
  have hu1 := QV.mono _ _ _ _ (le_boxes (nb := 2) hE) hu
  obtain ⟨b, hb⟩ : ∃ b, w.heap.size = b := ⟨_, rfl⟩
  have hbw : w.heap.size ≤ b := by omega
  rw [hb] at b0 b1 hz hXW hu1
  have k00 := b0.cell 0 rfl
  have k01 := b0.cell 1 rfl
  have k02 := b0.cell 2 rfl
  clear hu
  go_enter Tryz.func112, Tryz.ntmps112
  go_wp2_with fail
  refine (rqtake (hidB X b 2) W _ x hXW hu1).mono ?_
  rintro e w5 ⟨hE5, u5, rfl, hq5⟩
  obtain ⟨s5, a5, n5, c5, d5, k5, e5, rfl⟩ := hq5.shape
  have hX5 := hXW.ext hE5
  have bb0 := b0.ext0 hE5
  have bb1 := b1.ext0 hE5
  clear k00 k01 k02
  go_upto_region 2 with ((with_reducible show wpList _ _ _ (⟨_, .store _ _ _, _, _, _, _⟩ :: _) _ _); refine st_storeBox stRat rfl rfl bb0 rfl rfl (one3 _ _ _ _ _ _ _) ?_; intro w7 r1 r2; have k00 := r1.cell 0 rfl; have k01 := r1.cell 1 rfl; have k02 := r1.cell 2 rfl)
  have hX7 := hX5.ext r2
  have bb3 := bb1.ext r2 (ob_other (by omega))
  have hx7 := QC.mono _ _ _ _ (le_store (X := X) (lo := b) (nb := 2) r2 (by omega) (by omega)) hq5
  have hE7 : Ext w w7 := ExtX.box (hE.trans hE5) r2 (by omega)
  obtain ⟨hxz, hxm, hxdn⟩ := hx7.num
  have hEd : Ext w7 w7.drew := (ExtX.refl w7).drew
  have hXd : HX (hidB X b 2) w7.drew := hX7
  have hxzd : ZC (mk (hidB X b 2) w7.drew) (.agg #[.bool s5, .slice a5 n5 c5]) x.num := hxz
  have hxdd : NC (mk (hidB X b 2) w7.drew) (.slice d5 k5 e5) (dn x) := hxdn
  have bxn : lg x.num.natAbs ≤ 549755813888 := Nat.le_trans (Nat.le_trans (hq_num x) hlx.out) (by omega)
  have bxd : lg (dn x) ≤ 549755813888 := Nat.le_trans (Nat.le_trans (dn_le x) hlx.out) (by omega)
  have hxv := hxzd.zv bxn
  have hS : Hid (∀ W', Ext w7.drew W' → W'.cell? ⟨b, 0, none⟩ = some (.bool s5) ∧ W'.cell? ⟨b, 1, none⟩ = some (.slice a5 n5 c5) ∧ W'.cell? ⟨b, 2, none⟩ = some (.slice d5 k5 e5)) :=
    hid fun W' h => ⟨(r1.ext0 (hEd.trans h)).cell 0 rfl, (r1.ext0 (hEd.trans h)).cell 1 rfl, (r1.ext0 (hEd.trans h)).cell 2 rfl⟩
  go_region_held3 (fun w' => w'.cell? ⟨b, 0, none⟩ = some (.bool s5) ∧ w'.cell? ⟨b, 1, none⟩ = some (.slice a5 n5 c5) ∧ w'.cell? ⟨b, 2, none⟩ = some (.slice d5 k5 e5))
    (first | exact hS.out _ t1 | exact hS.out _ t2 | exact ⟨((r1.ext0 (hEd.trans t2)).ext (bb2.set3 _ _ _).2 (ob_other (by omega))).cell 0 rfl, ((r1.ext0 (hEd.trans t2)).ext (bb2.set3 _ _ _).2 (ob_other (by omega))).cell 1 rfl, ((r1.ext0 (hEd.trans t2)).ext (bb2.set3 _ _ _).2 (ob_other (by omega))).cell 2 rfl⟩ | go_keep)
    (first | (go_at_call 166; (with_reducible refine (rineg (hidB X b 2) w7.drew _ _ hXd hxv).mono ?_); rintro ee w8 ⟨t1, u8, rfl, s8, a8, c8, l8, rfl, h81, h82, h83⟩; have hX8 := HX.ext hXd t1; have t2 := t1; have hm8 := mkx NC.mono hxdd t1; have bb2 := bb3.ext0 (hEd.trans t2); have g0 := bb2.cell 0 rfl; have g1 := bb2.cell 1 rfl; have g2 := bb2.cell 2 rfl; have f0 := bb2.frozen 0; have f1 := bb2.frozen 1; have f2 := bb2.frozen 2))
  obtain ⟨q1, q2⟩ := bb2.set3 (.bool s8) (.slice a8 l8.length c8) (.slice d5 k5 e5)
  have hz : ZC (mk (hidB X b 2) w8) (.agg #[.bool s8, .slice a8 l8.length c8]) (-x).num := ⟨s8, a8, c8, l8, rfl, h81, by rw [Rat.neg_num]; exact h82, h83⟩
  have hd : NC (mk (hidB X b 2) w8) (.slice d5 k5 e5) (dn (-x)) := by rw [dn_neg]; exact hm8
  have h7 := QC.mono _ _ _ _ le_unbox (QC.mono _ _ _ _ (le_store q2 (by omega) (by omega)) (QC.of hz hd))
  have hEf : Ext w _ := ExtX.box (hE7.trans (hEd.trans t2)) q2 (by omega)
  clear g0 g1 g2 f0 f1 f2 k00 k01 k02 hS
  go_wp2_with fail
  exact bodyPost_ret (results_box rfl rfl stRat q1 rfl) rfl ⟨hEf, _, rfl, h7⟩

end Go.Proofs.YtjbhcniiioepgaaGreat
