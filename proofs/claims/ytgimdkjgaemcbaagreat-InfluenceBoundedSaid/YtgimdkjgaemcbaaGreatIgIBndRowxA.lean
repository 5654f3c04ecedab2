/- law 34: InfluenceBounded. Conditions: none. -/
import Derived.Test.YtgimdkjgaemcbaaGreatIgK
namespace Go.Proofs.YtgimdkjgaemcbaaGreat
open Go.RowKit Go.Rep Go.Lim Go.Lin
set_option maxRecDepth 100000 in
set_option maxHeartbeats 3200000 in
theorem bounded_any (lo : Option Addr) (l : List Int) (cl : Nat) (w : World) (hl : Sl (IntIn .i64) 1 w.cell? lo l) (hcl : l.length <= cl) (hlb : l.length <= 9223372036854775807) :
    Calls Tryz.prog 3 #[.slice lo l.length cl] w (BOut w true) := by
  go_enter Tryz.func3, Tryz.ntmps3
  go_wp2_with fail
  refine (tnew_any lo l cl w hl hcl hlb).mono ?_
  rintro e w1 ⟨rfl, hE1, ht1, hsz1⟩
  obtain ⟨tb, htb⟩ : ∃ tb, w.heap.size = tb := ⟨_, rfl⟩
  have hX1 : HX (tbm tb) w1 := fun k hk => by
    have : k = tb := by simpa [tbm] using hk
    omega
  have hfin := hid (fun w2 (h : ExtX (tbm tb) w1 w2) => iw_ext htb hE1 h)
  rw [htb] at ht1 |-
  clear hE1 hsz1 htb hl
  go_wp2_with fail
  refine (tvalues_any (tbm tb) tb 8 w1 ht1 hX1 (by decide) (by decide)).mono ?_
  rintro e w2 ⟨hE2, vo, x, vc, rfl, hvc, hx1, hx8, hxB, ht2', hO2⟩
  have ht2 := ht2'.unX ht1.1
  have hX2 := hX1.ext hE2
  have hsv := (hO2.sl QC.elem).qv (fun q hq => Nat.le_trans (hxB q hq) (by decide))
  have hxne : x ≠ [] := fun h => by subst h; simp at hx1
  have hhv := hsv.hd
  obtain ⟨n, hn⟩ : ∃ n, x.length = n := ⟨_, rfl⟩
  have hn' := hid hn
  rw [hn] at hvc hx1 hx8 hhv |-
  clear ht1 hX1 ht2' hO2
  go_wp2_with fail
  refine (tfitting_any (tbm tb) tb n w2 ht2 hX2 (by omega) (by omega)).mono ?_
  rintro e w3 ⟨hE3, ht3, k, t, rfl, hk, hf, htn⟩
  have hX3 := hX2.ext hE3
  have hF3 := hE2.trans hE3
  have hs3 := hsv.mono QV.mono (mk_mono hE3 (fun _ h => h))
  have bl0 := Bx.new w3 #[.int .i64 0, .int .i64 0] 28
  have hcrv := hid fun w' (hX : HX (tbm tb) w') (hs : Sl QV 3 (mk (tbm tb) w') vo x) => icurve_ok (tbm tb) w' (.slice vo n vc) k t x 2 hX ⟨vo, vc, by rw [hn'.out], by rw [hn'.out]; exact hvc, hs⟩ hk (by rw [hn'.out]; exact hf) (by rw [hn'.out]; omega) hxB (by decide)
  have hgood := hid (crv_good (k := k) (t := t) hxB (by rw [hn'.out]; omega) (by decide))
  have hchn := hid (crv_chn hk (by rw [hn'.out]; exact fits_more hf) hxne)
  obtain ⟨L, hL⟩ : ∃ L, crvL k t x = L := ⟨_, rfl⟩
  have hL' := hid hL
  rw [hL] at hcrv hgood hchn
  have hLne : 0 < L.length := List.length_pos_iff.2 hchn.out.ne
  obtain ⟨N, hN⟩ : ∃ N, L.length = N := ⟨_, rfl⟩
  have hN' := hid hN
  rw [hN] at hLne
  have hNn : N <= n + 1 := by
    have h1 := mrgP_len (fun z => estL k t (x ++ [z])) (dd (srt x)) ((dd (srt x)).length + 1)
    have h2 := dd_len (srt x)
    rw [srt_len, hn'.out] at h2
    have h3 : (crvL k t x).length = N := by rw [hL'.out, hN]
    have h4 : (crvL k t x).length <= (dd (srt x)).length + 1 := h1
    omega
  have hkf := hid (And.intro hk hf)
  clear hL hE2 hE3 hX2 ht2 hsv hn
  go_wp2_with (first | ((with_reducible show wpList _ _ _ (⟨_, .store 28 _ _, _, _, _, _⟩ :: _) _ _); refine st_storeBox stLoc rfl rfl bl0 rfl rfl (by simp [Value.oneCell']) ?_; intro w4 bl4 y4) | ((with_reducible show wpList _ _ _ (⟨_, .load 28 _, _, _, _, _⟩ :: _) _ _); refine st_loadBox stLoc rfl bl4 rfl ?_))
  have hE4 : Ext w3 w4 := ExtX.box ((ExtX.refl w3).alloc _) y4 (Nat.le_refl _)
  have hX4 := hX3.ext hE4
  have hs4 := hs3.mono QV.mono (mk_ext hE4)
  have ht4 := ht3.ext hE4
  have hF4 := hF3.trans (ExtX.of hE4)
  obtain ⟨bl, hbl⟩ : ∃ bl, w3.heap.size = bl := ⟨_, rfl⟩
  rw [hbl] at bl4 |-
  have hblt : bl ≠ tb := by have := ht3.lt; omega
  clear bl0 y4 hs3 hX3 hF3 hE4 ht3 hbl
  refine (hcrv.out w4 hX4 hs4).mono ?_
  rintro e w5 ⟨hE5, co, cc, rfl, hcc, hs5⟩
  have hX5 := hX4.ext hE5
  have hv5 := hs4.mono QV.mono (mk_ext hE5)
  have ht5 := ht4.ext hE5
  have hF5 := hF4.trans (ExtX.of hE5)
  have bl5 := bl4.ext0 hE5
  have hhc := hs5.hd
  rw [hN] at hcc hhc |-
  have hN0 : ((N : Int) == 0) = false := beqF (by omega)
  have ewN : IntKind.i64.wrap ((N : Int) - 1) = (N : Int) - 1 := IntWalk.i64_in _ (by omega)
  have hz0 : 0 < L.length := by rw [hN'.out]; exact hLne
  have hzN : N - 1 < L.length := by rw [hN'.out]; omega
  obtain ⟨g0, o0, sp1, ap1, np1, cp1, dp1, kp1, ep1, sp2, ap2, np2, cp2, dp2, kp2, ep2, sp3, ap3, np3, cp3, dp3, kp3, ep3, sp4, ap4, np4, cp4, dp4, kp4, ep4, hg0, hy0, p01, p02, p03, p04, p05, q01, q02, q03, q04⟩ := hs5.lin 0 hz0
  obtain ⟨gz, oz, sz1, az1, nz1, cz1, dz1, kz1, ez1, sz2, az2, nz2, cz2, dz2, kz2, ez2, sz3, az3, nz3, cz3, dz3, kz3, ez3, sz4, az4, nz4, cz4, dz4, kz4, ez4, hgz, hyz, z01, z02, z03, z04, z05, y01, y02, y03, y04⟩ := hs5.lin (N - 1) hzN
  have i0 : ∀ W, (Instr.indexAt 30 (.slice co N cc) (.int .i64 0)).run Tryz.prog W = .ok (.pointer (some ⟨g0, o0, none⟩)) W := by rw [<- hg0]; exact run_indexAt_adr slLin co N cc .i64 0 hhc hLne
  have iz : ∀ W, (Instr.indexAt 30 (.slice co N cc) (.int .i64 ((N : Int) - 1))).run Tryz.prog W = .ok (.pointer (some ⟨gz, oz, none⟩)) W := by
    rw [<- hgz, show ((N : Int) - 1) = ((N - 1 : Nat) : Int) by omega]; exact run_indexAt_adr slLin co N cc .i64 (N - 1) hhc (by omega)
  clear hE5 hs4 hX4 ht4 hF4 bl4 hN hcrv
  have hcfirst := hid fun q (h : L[0]? = some q) => crv_first hkf.out.1 (by rw [hn'.out]; exact fits_more hkf.out.2) hxne q (by rw [hL'.out]; exact h)
  have hclast := hid fun q (h : L.getLast? = some q) => crv_last hkf.out.1 (by rw [hn'.out]; exact fits_more hkf.out.2) hxne q (by rw [hL'.out]; exact h)
  have hcmean := hid fun hA hB => (by
    have := crv_mean hkf.out.1 (l := x) (by rw [hn'.out]; exact fits_more hkf.out.2) hxne hA hB
    rw [hL'.out] at this; exact this : L.length = 1 /\ ∀ q, L[0]? = some q -> q.b = 1 / (((x.length + 1 : Nat) : Int) : Rat))
  have hg8 := hgood.out L[0] (List.getElem_mem hz0)
  have hg9 := hgood.out L[N - 1] (List.getElem_mem hzN)
  have hb8 : Hid (hq (L[0]).b <= 68719476736) := hid (Nat.le_trans hg8.2.1 (by decide))
  have hb9 : Hid (hq (L[N - 1]).b <= 68719476736) := hid (Nat.le_trans hg9.2.1 (by decide))
  have he8 := hid (hcfirst.out L[0] (List.getElem?_eq_getElem hz0))
  have he9 := hid (hclast.out L[N - 1] (by rw [List.getLast?_eq_getElem?, hN'.out]; exact List.getElem?_eq_getElem hzN))
  have hm8 := hid fun hA hB => (hcmean.out hA hB).2 L[0] (List.getElem?_eq_getElem hz0)
  have hm1 := hid fun hA hB => (hcmean.out hA hB).1
  obtain ⟨B8, hB8⟩ : ∃ q, (L[0]).b = q := ⟨_, rfl⟩
  obtain ⟨B9, hB9⟩ : ∃ q, (L[N - 1]).b = q := ⟨_, rfl⟩
  rw [hB8] at hb8 he8 hm8 q04
  rw [hB9] at hb9 he9 y04
  have hEd : Ext w5 w5.drew := (ExtX.refl w5).drew
  have hXd := hX5.ext hEd
  have hwS : w5.drew.cell? ⟨g0, o0 + 11, none⟩ = some (.bool sp4) /\ w5.drew.cell? ⟨g0, o0 + 12, none⟩ = some (.slice ap4 np4 cp4) /\ w5.drew.cell? ⟨g0, o0 + 13, none⟩ = some (.slice dp4 kp4 ep4) /\ w5.drew.cell? ⟨gz, oz + 11, none⟩ = some (.bool sz4) /\ w5.drew.cell? ⟨gz, oz + 12, none⟩ = some (.slice az4 nz4 cz4) /\ w5.drew.cell? ⟨gz, oz + 13, none⟩ = some (.slice dz4 kz4 ez4) := by
    have z1 := p05.out noY w5.drew hEd rfl
    have z2 := z05.out noY w5.drew hEd rfl
    exact ⟨z1.1, z1.2.1, z1.2.2, z2.1, z2.2.1, z2.2.2⟩
  have q8 := mkx QC.mono q04 hEd
  have q9 := mkx QC.mono y04 hEd
  clear p01 p02 p03 p04 p05 z01 z02 z03 z04 z05 q01 q02 q03 q04 y01 y02 y03 y04 hB8 hB9 hcfirst hclast hcmean hg8 hg9 hgood hchn hs5 hg0 hgz hz0 hzN
  go_upto_region 7 with fail
  (try simp only [Act.put])
  refine wp_region_K 14 (fun w' => w'.cell? ⟨g0, o0 + 11, none⟩ = some (.bool sp4) /\ w'.cell? ⟨g0, o0 + 12, none⟩ = some (.slice ap4 np4 cp4) /\ w'.cell? ⟨g0, o0 + 13, none⟩ = some (.slice dp4 kp4 ep4) /\ w'.cell? ⟨gz, oz + 11, none⟩ = some (.bool sz4) /\ w'.cell? ⟨gz, oz + 12, none⟩ = some (.slice az4 nz4 cz4) /\ w'.cell? ⟨gz, oz + 13, none⟩ = some (.slice dz4 kz4 ez4)) (by kernel_rfl) (by kernel_rfl) hwS (fun hHeld hOnce => ?_)
  refine kt 0 hOnce ?_
  refine kt 1 hOnce ?_
  refine kt 2 hOnce ?_
  refine kt 3 hOnce ?_
  refine kt 4 hOnce ?_
  refine kt 5 hOnce ?_
  refine kt 6 hOnce ?_
  refine kt 7 hOnce ?_
  refine kt 8 hOnce ?_
  refine kt 9 hOnce ?_
  refine kt 10 hOnce ?_
  refine chain_start [] [⟨11, 8, 38, #[.bool false, .slice none 0 0, .slice none 0 0]⟩, ⟨12, 9, 38, #[.bool false, .slice none 0 0, .slice none 0 0]⟩] (tbm tb) 2 hXd hHeld (fun _ _ h hE => ⟨hE.cell h.1, hE.cell h.2.1, hE.cell h.2.2.1, hE.cell h.2.2.2.1, hE.cell h.2.2.2.2.1, hE.cell h.2.2.2.2.2⟩) ?_
  refine chg_end (fun M w6 gs hX6 hZ6 hE6 hF6 hHeld hb6 hn6 => ?_)
  simp only [setA, ptr, Act.put, List.setIfInBounds_toArray, List.set_cons_zero, List.set_cons_succ]
  obtain ⟨g8, hg8⟩ : ∃ g, gs 0 = g := ⟨_, rfl⟩
  obtain ⟨g9, hg9⟩ : ∃ g, gs 1 = g := ⟨_, rfl⟩
  obtain ⟨x8, m8, l8⟩ := hb6 0 _ rfl
  obtain ⟨x9, m9, l9⟩ := hb6 1 _ rfl
  have hne := hn6 0 1 (by decide) (by decide)
  rw [hg8] at x8 m8 l8 hne
  rw [hg9] at x9 m9 l9 hne
  simp only [hg8, hg9]
  have hlt0 : g0 < w5.drew.heap.size := cell_lt hwS.1
  have hltz : gz < w5.drew.heap.size := cell_lt hwS.2.2.2.1
  have hob0 : ob (some ⟨g8, 0, none⟩) g0 = false := ob_other (by omega)
  have hob : ob (some ⟨g8, 0, none⟩) gz = false := ob_other (by omega)
  refine ks 13 (fun K hK => ?_)
  (refine step_storeBox rfl rfl stRat rfl rfl x8 rfl rfl (one3 _ _ _ _ _ _ _) ?_; intro w7 x87 y8)
  refine kcn hK ⟨y8.cellY hHeld.1 hob0, y8.cellY hHeld.2.1 hob0, y8.cellY hHeld.2.2.1 hob0, y8.cellY hHeld.2.2.2.1 (hob), y8.cellY hHeld.2.2.2.2.1 (hob), y8.cellY hHeld.2.2.2.2.2 (hob)⟩ (fun hHeld => ?_)
  clear hK K
  have x97 := x9.ext y8 (ob_other (Ne.symm hne))
  refine kl 14 (fun K hK => ?_)
  (refine step_storeBox rfl rfl stRat rfl rfl x97 rfl rfl (one3 _ _ _ _ _ _ _) ?_; intro w8 x98 y9)
  refine hK.out _ _ ?_
  clear hK K
  (try simp only [Act.put])
  have x88 := x87.ext y9 (ob_other hne)
  have hE8 : Ext w5 w8 := ExtX.box (ExtX.box (hEd.trans hE6) y8 l8) y9 l9
  have hEd8 : Ext w5.drew w8 := ExtX.box (ExtX.box hE6 y8 l8) y9 l9
  have q88 := mkx QC.mono q8 hEd8
  have q98 := mkx QC.mono q9 hEd8
  have hX8 := hX5.ext hE8
  have bl8 := bl5.ext0 hE8
  have hF8 := hF5.trans (ExtX.of hE8)
  have hE8d : Ext w8 w8.drew := (ExtX.refl w8).drew
  have hX8d := hX8.ext hE8d
  have hF8d := hF8.trans (ExtX.of hE8d)
  have k0 : w8.cell? ⟨bl, 0, none⟩ = some (.int .i64 k) := bl8.cell 0 rfl
  have k1 : w8.cell? ⟨bl, 1, none⟩ = some (.int .i64 t) := bl8.cell 1 rfl
  have q8d := mkx QC.mono q88 hE8d
  have q9d := mkx QC.mono q98 hE8d
  have hsame := hid fun w' u v (hu : QC (mk (tbm tb) w') u B8) (hv : QC (mk (tbm tb) w') v B8) => (by
    have := rqsame (tbm tb) w' u v B8 B8 hu hv hb8.out
    rw [decide_eq_true rfl] at this
    exact this : Calls Tryz.prog 18 #[u, v] w' (BOut w' true))
  clear q8 q9 hEd8 hE6 hF6 hb6 hn6 x8 x9 x87 x97 y8 y9 l8 l9 m8 m9 hX6 hZ6 hHeld hwS hOnce hg8 hg9 hlt0 hltz bl5 hX5 hF5 hv5 hhc i0 iz hXd hEd hhv
  by_cases hk1 : k = 1
  · subst hk1
    have hA : rkA 1 t (x.length + 1) = 0 := by simp [rkA]
    have hB : rkB 1 t (x.length + 1) = x.length + 1 := by simp [rkB]
    have hN1 : N = 1 := by rw [<- hN'.out]; exact hm1.out hA hB
    have hfr : Hid ((((1 : Int) : Rat)) / ((((n : Int) + 1 : Int)) : Rat) = B8) := hid (by
      rw [hm8.out hA hB, hn'.out]
      rw [show (((n + 1 : Nat) : Int)) = (n : Int) + 1 by omega]
      rw [show (((1 : Int) : Rat)) = 1 by decide +kernel])
    subst hN1
    have ewn : IntKind.i64.wrap ((n : Int) + 1) = (n : Int) + 1 := IntWalk.i64_in _ (by omega)
    clear hA hB hm1 hm8 he8 he9 hN0 ewN
    have hwS : w8.drew.cell? ⟨g8, 0, none⟩ = some (.bool sp4) /\ w8.drew.cell? ⟨g8, 1, none⟩ = some (.slice ap4 np4 cp4) /\ w8.drew.cell? ⟨g8, 2, none⟩ = some (.slice dp4 kp4 ep4) := ⟨hE8d.cell (x88.cell 0 rfl), hE8d.cell (x88.cell 1 rfl), hE8d.cell (x88.cell 2 rfl)⟩
    go_upto_region 9 with fail
    (try simp only [Act.put])
    refine wp_region_K 14 (fun w' => w'.cell? ⟨g8, 0, none⟩ = some (.bool sp4) /\ w'.cell? ⟨g8, 1, none⟩ = some (.slice ap4 np4 cp4) /\ w'.cell? ⟨g8, 2, none⟩ = some (.slice dp4 kp4 ep4)) (by kernel_rfl) (by kernel_rfl) hwS (fun hHeld hOnce => ?_)
    refine kt 0 hOnce ?_
    refine kt 1 hOnce ?_
    refine kt 2 hOnce ?_
    refine kt 3 hOnce ?_
    refine kt 4 hOnce ?_
    refine kt 5 hOnce ?_
    refine kt 6 hOnce ?_
    refine kt 7 hOnce ?_
    refine ks 8 (fun K hK => ?_)
    go_simp
    ((with_reducible refine (rqfraction (tbm tb) w8.drew 1 ((n : Int) + 1) hX8d (by decide) (by decide) (by omega) (by omega) (by omega) (by decide +kernel) (Nat.le_trans (lgI (by omega) (by omega)) (by decide))).mono ?_); rintro ee wa ⟨ga, ua, rfl, hua⟩; rw [hfr.out] at hua; obtain ⟨sa, aa, na, ca, da, ka, ea, rfl⟩ := hua.shape)
    refine kcn hK ⟨ga.cell hHeld.1, ga.cell hHeld.2.1, ga.cell hHeld.2.2⟩ (fun hHeld => ?_)
    clear hK K
    refine ks 9 (fun K hK => ?_)
    go_simp
    ((with_reducible refine (hsame.out wa _ _ (mkx QC.mono q8d ga) hua).mono ?_); rintro ee wb ⟨gb, rfl⟩)
    refine kcn hK ⟨gb.cell hHeld.1, gb.cell hHeld.2.1, gb.cell hHeld.2.2⟩ (fun hHeld => ?_)
    clear hK K
    refine kt 10 hOnce ?_
    refine kt 11 hOnce ?_
    refine ks 12 (fun K hK => ?_)
    go_simp
    ((with_reducible refine (awake34_any wb).mono ?_); rintro ee wc ⟨gc, rfl⟩)
    refine kcn hK ⟨gc.cell hHeld.1, gc.cell hHeld.2.1, gc.cell hHeld.2.2⟩ (fun hHeld => ?_)
    clear hK K
    refine kt 13 hOnce ?_
    refine kl 14 (fun K hK => ?_)
    go_simp
    refine hK.out _ _ ?_
    clear hK K
    go_wp2_with fail
    go_ret
    exact ⟨hfin.out _ (hF8d.trans (ExtX.of (ga.trans (gb.trans gc)))), rfl⟩
  · have hk1' : (k == (1 : Int)) = false := beqF hk1
    by_cases h5 : k = 5 /\ t = 0
    · obtain ⟨rfl, rfl⟩ := h5
      have hN1 : N = 1 := by rw [<- hN'.out]; exact hm1.out (by simp [rkA]) (by simp [rkB])
      subst hN1
      clear hm1 hm8 he8 he9 hN0 ewN q8d q9d
      go_wp2_with (first | (go_at_call 20; (with_reducible refine (awake34_any w8).mono ?_); rintro ee w9 ⟨gc, rfl⟩))
      go_ret
      exact ⟨hfin.out _ (hF8.trans (ExtX.of gc)), rfl⟩
    · by_cases hn1 : n = 1 /\ k ≠ 5
      · obtain ⟨rfl, hk5⟩ := hn1
        have hk5' : (k == (5 : Int)) = false := beqF hk5
        have hk5'' : (k != (5 : Int)) = true := bneT hk5
        clear hm1 hm8 he8 he9 hN0 ewN q8d q9d
        go_wp2_with (first | (go_at_call 20; (with_reducible refine (awake34_any w8).mono ?_); rintro ee w9 ⟨gc, rfl⟩))
        go_ret
        exact ⟨hfin.out _ (hF8.trans (ExtX.of gc)), rfl⟩
      · have hrk := rk_in (n := x.length) hkf.out.1 (by rw [hn'.out]; exact hkf.out.2) hk1 h5 (by rw [hn'.out]; exact hn1)
        have hln := lnB_out hrk.1 hrk.2
        have e8 : B8 = 0 := by rw [he8.out]; exact hln.1
        have e9 : B9 = 0 := by rw [he9.out]; exact hln.2
        subst e8 e9
        clear hm1 hm8 he8 he9 hN0 ewN hrk hln hsame
        have hsg := hid fun w' u (hX : HX (tbm tb) w') (hu : QC (mk (tbm tb) w') u 0) => (rqsign (tbm tb) w' u 0 hX (hu.qv hb8.out) : Calls Tryz.prog 21 #[u] w' (IntOut w' 0))
        have c80 : w8.cell? ⟨g8, 0, none⟩ = some (.bool sp4) := x88.cell 0 rfl
        have c81 : w8.cell? ⟨g8, 1, none⟩ = some (.slice ap4 np4 cp4) := x88.cell 1 rfl
        have c82 : w8.cell? ⟨g8, 2, none⟩ = some (.slice dp4 kp4 ep4) := x88.cell 2 rfl
        by_cases hk5 : k = 5
        · subst hk5
          have ht0 : (t == (0 : Int)) = false := beqF (fun h => h5 ⟨rfl, h⟩)
          rcases Bool.eq_false_or_eq_true ((n : Int) == 1) with hnn | hnn
          all_goals
            go_wp2_with (first | (go_at_call 21; (with_reducible refine (hsg.out w8 _ hX8 q88).mono ?_); rintro ee wa ⟨ga, rfl⟩; have c90 : wa.cell? ⟨g9, 0, none⟩ = some (.bool sz4) := (x98.ext0 ga).cell 0 rfl; have c91 : wa.cell? ⟨g9, 1, none⟩ = some (.slice az4 nz4 cz4) := (x98.ext0 ga).cell 1 rfl; have c92 : wa.cell? ⟨g9, 2, none⟩ = some (.slice dz4 kz4 ez4) := (x98.ext0 ga).cell 2 rfl) | (go_at_call 21; (with_reducible refine (hsg.out wa _ (hX8.ext ga) (mkx QC.mono q98 ga)).mono ?_); rintro ee wb ⟨gb, rfl⟩) | (go_at_call 20; (with_reducible refine (awake34_any wb).mono ?_); rintro ee wc ⟨gc, rfl⟩))
            go_ret
            exact ⟨hfin.out _ (hF8.trans (ExtX.of (ga.trans (gb.trans gc)))), rfl⟩
        · have hk5' : (k == (5 : Int)) = false := beqF hk5
          have hk5'' : (k != (5 : Int)) = true := bneT hk5
          have hnn : ((n : Int) == 1) = false := beqF (fun h => hn1 ⟨by omega, hk5⟩)
          go_wp2_with (first | (go_at_call 21; (with_reducible refine (hsg.out w8 _ hX8 q88).mono ?_); rintro ee wa ⟨ga, rfl⟩; have c90 : wa.cell? ⟨g9, 0, none⟩ = some (.bool sz4) := (x98.ext0 ga).cell 0 rfl; have c91 : wa.cell? ⟨g9, 1, none⟩ = some (.slice az4 nz4 cz4) := (x98.ext0 ga).cell 1 rfl; have c92 : wa.cell? ⟨g9, 2, none⟩ = some (.slice dz4 kz4 ez4) := (x98.ext0 ga).cell 2 rfl) | (go_at_call 21; (with_reducible refine (hsg.out wa _ (hX8.ext ga) (mkx QC.mono q98 ga)).mono ?_); rintro ee wb ⟨gb, rfl⟩) | (go_at_call 20; (with_reducible refine (awake34_any wb).mono ?_); rintro ee wc ⟨gc, rfl⟩))
          go_ret
          exact ⟨hfin.out _ (hF8.trans (ExtX.of (ga.trans (gb.trans gc)))), rfl⟩
end Go.Proofs.YtgimdkjgaemcbaaGreat
