/- law 25: HalfspaceWitnesses. Conditions: none. -/
import Derived.Test.YthipmbmjodhiiaaGreatHxM
namespace Go.Proofs.YthipmbmjodhiiaaGreat
open Go.RowKit Go.Rep Go.Lim Go.Lin
set_option maxRecDepth 100000 in
set_option maxHeartbeats 12800000 in
theorem hwits_any (lo : Option Addr) (l : List Int) (cl : Nat) (w : World) (hl : Sl (IntIn .i64) 1 w.cell? lo l) (hcl : l.length <= cl) (hlb : l.length <= 9223372036854775807) :
    Calls Tryz.prog 5 #[.slice lo l.length cl] w (BOut w true) := by
  go_enter Tryz.func5, Tryz.ntmps5
  go_wp2_with fail
  refine (tnew_any lo l cl w hl hcl hlb).mono ?_
  rintro e w1 ⟨rfl, hE1, ht1, hsz1⟩
  obtain ⟨tb, htb⟩ : ∃ tb, w.heap.size = tb := ⟨_, rfl⟩
  have hX1 : HX (tbm tb) w1 := fun k hk => by
    have : k = tb := by simpa [tbm] using hk
    omega
  have hfin := hid (fun w2 (h : ExtX (tbm tb) w1 w2) => tape_all htb hE1 h)
  rw [htb] at ht1 |-
  obtain ⟨X, hX⟩ : ∃ X, tbm tb = X := ⟨_, rfl⟩
  have hsub : ∀ k, tbm tb k = true -> X k = true := fun k hk => by rw [<- hX]; exact hk
  rw [hX] at ht1 hX1
  have hXe := hid hX
  clear hE1 hsz1 htb hl hX
  go_wp2_with fail
  refine (tany_any X tb 6 w1 ht1 hX1 (by decide) (by decide)).mono ?_
  rintro e w2 ⟨hE2, ht2, v2, p, rfl, hp, hpB, hpl, hpr⟩
  have hX2 := hX1.ext hE2
  have hp65 : p.length <= 1000 := by omega
  go_wp2_with fail
  refine (tat_any X tb w2 v2 p 510 4 ht2 hX2 hp hp65 hpB hpr (by decide) (by decide) (by decide)).mono ?_
  rintro e w4 ⟨hE4, ht4, yv, y, rfl, hy, hyB, hyl⟩
  have hF4 := hfin.out w4 (by rw [hXe.out] at *; exact hE2.trans hE4)
  have hX4 := hX2.ext hE4
  have hp4 : MV (mk noY w4) v2 p := MV.mono _ _ _ _ (noX_le X w4) (MV.mono _ _ _ _ (mk_mono hE4 hsub) hp)
  have hy4 : RV (mk noY w4) yv y := RV.mono _ _ _ _ (noX_le X w4) hy
  have hW := hwit_any noY w4 v2 yv p y 1023 (hnoX w4) hp4 hy4 hp65 (hpB.le (by decide)) hyB (by decide) (by decide)
  have hR := hid (fun w' (h : Ext w4 w') => rdepth_any noY w' v2 yv p y 1023 (hnoX w') (mkx MV.mono hp4 h) (mkx RV.mono hy4 h) hp65 (hpB.le (by decide)) hyB (by decide) (by decide))
  have hC := hid (fun w' (us : List (List Rat)) (uv : Value) (h : Ext w4 w') (h3 : MV (mk noY w') uv us) (h4 : us.length <= 1000) (h5 : BM uB us) => rcount_any noY w' v2 yv uv p y us 1023 uB (hnoX w') (mkx MV.mono hp4 h) (mkx RV.mono hy4 h) h3 hp65 h4 (hpB.le (by decide)) hyB h5 (by decide) (by decide) (by decide))
  have hno := hid (fun (h : 10 < p.length) (hd : depOk p y = true) => (by
    have hpt := (depOk_parts hd).1
    have := (ptsB_true.1 hpt).2.1
    omega : False))
  have hyc := hid (fun (hd : depOk p y = true) => (depOk_parts hd).2)
  have hlaw := hid (fun us (hd : depOk p y = true) (hl : ∀ r ∈ us, r.length = colsL p) (hw : Wit (colsL p) (vecs (fromM (colsL p) p y)) (depV p y) (vecs us)) => wit_law hd hl hw)
  have hc3 := hid (fun (hd : depOk p y = true) => (ptsB_true.1 (depOk_parts hd).1).2.2.2.1)
  obtain ⟨vo, vc, rfl, hvc, hvs⟩ := hp4
  obtain ⟨ya, yc, rfl, hyc2, hys⟩ := hy4
  obtain ⟨n, hn⟩ : ∃ n, p.length = n := ⟨_, rfl⟩
  obtain ⟨yl, hylq⟩ : ∃ yl, y.length = yl := ⟨_, rfl⟩
  obtain ⟨V, hV⟩ : ∃ V, depV p y = V := ⟨_, rfl⟩
  obtain ⟨cc, hcc⟩ : ∃ cc, colsL p = cc := ⟨_, rfl⟩
  obtain ⟨zz, hzz⟩ : ∃ zz, vecs (fromM cc p y) = zz := ⟨_, rfl⟩
  unfold WitOut at hW
  rw [hn, hylq, hV, hcc, hzz] at hW
  rw [hn, hylq, hV] at hR
  rw [hn, hylq] at hC
  rw [hn] at hno hpl |-
  rw [hylq, hcc] at hyc
  rw [hV, hcc, hzz] at hlaw
  rw [hcc] at hc3
  rw [hylq] at hyl |-
  clear ht4 ht2 hE2 hE4 ht1 hX1 hX2 hfin hvs hp hpB hpr hn hvc hy hyB hys hyc2 hylq hV hcc hzz hX4 hp65 hsub hXe
  cases hok : depOk p y
  · rw [hok, show okE false = 6 from rfl] at hW hR
    clear hlaw hyc hno hC hok hc3
    by_cases h10 : 10 < n
    · go_wp2_with fail
      refine hW.mono ?_
      rintro e w5 ⟨hE5, uv, us, rfl, huv, _, _, _⟩
      clear hW hR huv
      go_wp2_with fail
      refine (awake25_any w5).mono ?_
      rintro e w6 ⟨hE6, rfl⟩
      go_wp2_with fail
      go_ret
      exact ⟨hF4.trans (hE5.trans hE6), rfl⟩
    · go_wp2_with fail
      refine hW.mono ?_
      rintro e w5 ⟨hE5, uv, us, rfl, huv, _, hus, _⟩
      obtain ⟨ua, uc, rfl, _, _⟩ := huv
      obtain rfl := hus (by trivial)
      have hR5 := hR.out w5 hE5
      clear hW hR hus
      go_wp2_with fail
      refine hR5.mono ?_
      rintro e w6 ⟨hE6, rfl⟩
      clear hR5
      go_wp2_with fail
      refine (awake25_any w6).mono ?_
      rintro e w7 ⟨hE7, rfl⟩
      go_wp2_with fail
      go_ret
      exact ⟨hF4.trans (hE5.trans (hE6.trans hE7)), rfl⟩
  · rw [hok] at hno hyc hlaw hc3
    rw [hok, show okE true = 0 from rfl] at hW hR
    have hn10 : ¬ 10 < n := fun h => hno.out h rfl
    have hcc3 := hc3.out rfl
    have hycc := hyc.out rfl
    clear hno hyc hok hc3 hyl
    subst hycc
    go_wp2_with fail
    refine hW.mono ?_
    rintro e w5 ⟨hE5, uv, us, rfl, huv, huB, _, hus⟩
    obtain ⟨hu1, hu2, hu3, hu4⟩ := hus (by trivial)
    obtain ⟨hl1, hl2, hl3⟩ := hlaw.out us (by trivial) hu1 hu2
    have hz := hid (hl3 (by omega))
    have huv0 := huv
    obtain ⟨ua, uc, rfl, huc, hus5⟩ := huv
    have hR5 := hR.out w5 hE5
    have hC6 := hid (fun w' (h : Ext w5 w') => hC.out w' us (.slice ua us.length uc) (hE5.trans h) (mkx MV.mono huv0 h) (by omega) huB)
    rw [hl1, hl2, show okE true = 0 from rfl] at hC6
    obtain ⟨a1, c1, hX1', hc1, hcl1, hq1⟩ := hus5.row 0 (by omega)
    have hrl := hu1 us[0] (List.getElem_mem _)
    have hhu := hus5.hd
    obtain ⟨r, hr⟩ : ∃ r, us[0] = r := ⟨_, rfl⟩
    rw [hr] at hz hc1 hrl hq1 hcl1
    obtain ⟨ul, hul⟩ : ∃ ul, us.length = ul := ⟨_, rfl⟩
    rw [hul] at hC6 huc hhu hu3 hu4 |-
    have hrl' := hid hrl
    have hh1 : Hd a1 yl := by have := hq1.hd; rw [hrl] at this; exact this
    rw [hrl] at hc1
    clear hW hR hC hus huv0 hl1 hl2 hl3 hu1 hu2 hlaw huB hr hul hus5 hrl hcl1
    go_wp2_with fail
    refine hR5.mono ?_
    rintro e w6 ⟨hE6, rfl⟩
    have hC7 := hC6.out w6 hE6
    clear hR5 hC6
    go_wp2_with fail
    refine hC7.mono ?_
    rintro e w7 ⟨hE7, rfl⟩
    clear hC7
    have hE57 := hE6.trans hE7
    have k00 := hc1.out noY w7 hE57 rfl
    have hF7 := hF4.trans (hE5.trans hE57)
    have hq7 := hq1.mono QV.mono (mk_ext hE57)
    have s1 : ((V : Int) != (V : Int)) = false := bneF rfl
    have s2 : ¬ (ul : Int) < 1 := by omega
    have s3 : ¬ (yl : Int) < (ul : Int) := by omega
    clear hc1 hq1 hE6 hE7 hE57
    obtain ⟨wi, hwi⟩ : ∃ wi, wi = w7 := ⟨_, rfl⟩
    subst hwi
    go_wp2_with (with_reducible refine up_ix1 slRats (by omega) (by assumption) ?_)
    go_loopw [14, 98] (fun o cx wr => ∃ (j : Nat) (b2 : Bool), cx = .int .i64 j /\ j <= yl /\ o = .bool b2 /\ Hid (b2 = zeroB (r.take j)) /\ Ext wi wr) (fun _ cx _ => yl - (intOf cx).toNat)
    case atStart => exact ⟨0, true, rfl, Nat.zero_le _, rfl, hid (by simp [zeroB]), ExtX.refl _⟩
    case round =>
      obtain ⟨j, b2, rfl, hj, rfl, hb2, hEj⟩ := hrel
      clear k00 s1 s2 s3
      by_cases hlj : j < yl
      · have hjr : j < r.length := by rw [hrl'.out]; exact hlj
        have hzs := hid (zeroB_succ hjr)
        have hq2 := hq7.mono QV.mono (mk_ext hEj)
        have bx := Bx.new wr #[.bool false, .slice none 0 0, .slice none 0 0] 34
        cases b2
        · have hb3 : Hid (false = zeroB (r.take (j + 1))) := hid (by rw [hzs.out, <- hb2.out]; rfl)
          go_wp2_with (first | (with_reducible refine up_ixn slRat (by omega) (by assumption) ?_) | ((with_reducible show wpList _ _ _ (⟨_, .load 34 _, _, _, _, _⟩ :: _) _ _); refine st_loadElem stRat j hq2 hjr rfl (by simp) QV.agg ?_; intro u5 hu5; obtain ⟨s5, a5, n5, c5, d5, m5, e5, rfl⟩ := hu5.shape) | ((with_reducible show wpList _ _ _ (⟨_, .store 34 _ _, _, _, _, _⟩ :: _) _ _); refine st_storeBox stRat rfl rfl bx rfl rfl (one3 _ _ _ _ _ _ _) ?_; intro w5 y1 y2; have hE5 : Ext wr w5 := ExtX.box ((ExtX.refl wr).alloc _) y2 (Nat.le_refl _)))
          have hE9 := hEj.trans hE5
          go_roundw
          case rel => exact ⟨j + 1, false, by go_num, by omega, rfl, hb3, hE9⟩
          case measure => simp [intOf]; omega
        · obtain ⟨x, hx⟩ : ∃ x, r[j] = x := ⟨_, rfl⟩
          have hx' := hid hx
          rw [hx] at hzs
          have hb3 : Hid (decide (x = 0) = zeroB (r.take (j + 1))) := hid (by rw [hzs.out, <- hb2.out]; rfl)
          clear hx
          go_wp2_with (first | (with_reducible refine up_ixn slRat (by omega) (by assumption) ?_) | ((with_reducible show wpList _ _ _ (⟨_, .load 34 _, _, _, _, _⟩ :: _) _ _); refine st_loadElem stRat j hq2 hjr rfl (by simp) QV.agg ?_; intro u5 hu5; rw [hx'.out] at hu5; obtain ⟨s5, a5, n5, c5, d5, m5, e5, rfl⟩ := hu5.shape) | ((with_reducible show wpList _ _ _ (⟨_, .store 34 _ _, _, _, _, _⟩ :: _) _ _); refine st_storeBox stRat rfl rfl bx rfl rfl (one3 _ _ _ _ _ _ _) ?_; intro w5 y1 y2; have hE5 : Ext wr w5 := ExtX.box ((ExtX.refl wr).alloc _) y2 (Nat.le_refl _); have k10 := y1.cell 0 rfl; have k11 := y1.cell 1 rfl; have k12 := y1.cell 2 rfl; have hu6 := mkx QV.mono hu5 hE5))
          refine (rqsign noY _ _ _ (hnoX _) hu6).mono ?_
          rintro e w7 ⟨hE7, rfl⟩
          have hE9 := hEj.trans (hE5.trans hE7)
          have hsb : Hid ((x.num.sign == 0) = decide (x = 0)) := hid (by
            rcases sign_cases x with ⟨h1, h2⟩ | ⟨h1, h2⟩ | ⟨h1, h2⟩
            · rw [h2, decide_eq_false (by intro h; rw [h] at h1; exact absurd h1 (by grind))]; rfl
            · rw [h2, decide_eq_true h1]; rfl
            · rw [h2, decide_eq_false (by intro h; rw [h] at h1; exact absurd h1 (by grind))]; rfl)
          obtain ⟨b4, hb4⟩ : ∃ b4, decide (x = 0) = b4 := ⟨_, rfl⟩
          rw [hb4] at hsb hb3
          have hsb2 := hsb.out
          clear k10 k11 k12 hb4 bx
          go_wp2_with fail
          go_roundw
          case rel => exact ⟨j + 1, b4, by go_num, by omega, by rw [<- hsb2], hb3, hE9⟩
          case measure => simp [intOf]; omega
      · have hjd : j = yl := by omega
        have hb3 : b2 = false := by
          have h1 := hb2.out
          rw [List.take_of_length_le (by rw [hrl'.out, hjd]; exact Nat.le_refl _), hz.out] at h1
          exact h1
        subst hb3
        go_wp2_with fail
        refine (awake25_any wr).mono ?_
        rintro e w8 ⟨hE8, rfl⟩
        go_wp2_with fail
        go_ret
        exact ⟨hF7.trans (hEj.trans hE8), rfl⟩
end Go.Proofs.YthipmbmjodhiiaaGreat
