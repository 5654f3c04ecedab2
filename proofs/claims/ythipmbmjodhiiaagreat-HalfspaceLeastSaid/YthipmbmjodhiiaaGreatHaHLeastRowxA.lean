/- law 25: HalfspaceLeast. Conditions: none. -/
import Derived.Test.YthipmbmjodhiiaaGreatHaK
namespace Go.Lin
open Go.Lim Go.Rep Go.Proofs.YthipmbmjodhiiaaGreat
theorem pts_of {p : Mat} {d : Nat} (h1 : 1 ≤ p.length) (h2 : p.length ≤ 64) (h3 : 1 ≤ d) (h4 : d ≤ 3) (h : ∀ r ∈ p, r.length = d) : ptsB p = true ∧ colsL p = d := by
  have hc : colsL p = d := by
    unfold colsL
    rw [List.getD_eq_getElem?_getD, List.getElem?_eq_getElem (by omega)]
    exact h _ (List.getElem_mem _)
  exact ⟨ptsB_true.2 ⟨h1, h2, by omega, by omega, fun i hi => by rw [hc]; exact h _ (List.getElem_mem _)⟩, hc⟩
/-- All elements of all rows are 0. -/
def allZ (us : Mat) : Bool := us.all zeroB
theorem allZ_succ {us : Mat} {i : Nat} (h : i < us.length) : allZ (us.take (i + 1)) = (allZ (us.take i) && zeroB us[i]) := by
  unfold allZ
  rw [← List.take_append_getElem h, List.all_append]
  simp
theorem zeroB_succ {r : List Rat} {j : Nat} (h : j < r.length) : zeroB (r.take (j + 1)) = (zeroB (r.take j) && decide (r[j] = 0)) := by
  unfold zeroB
  rw [← List.take_append_getElem h, List.all_append]
  simp
theorem allZ_no {c : Nat} {us : Mat} (hl : ∀ r ∈ us, r.length = c) (h : allZ us = false) : ∃ u ∈ vecs us, nz c u := by
  unfold allZ at h
  rw [List.all_eq_false] at h
  obtain ⟨r, hr, hz⟩ := h
  exact ⟨vec r, List.mem_map.2 ⟨r, hr, rfl⟩, (nz_vec (hl r hr)).2 (by simpa using hz)⟩
/-- The counts of directions are no less than the depth. -/
theorem cnt_least {p us : Mat} {y : List Rat} (h : depOk p y = true) (hl : ∀ r ∈ us, r.length = colsL p) (hz : allZ us = false) : depV p y ≤ cntV p y us ∧ cntOk p y us = true := by
  have hc : cntOk p y us = true := by
    unfold depOk at h
    unfold cntOk
    rw [← Bool.and_assoc, h]
    rw [Bool.and_eq_true, decide_eq_true_eq] at h
    rw [decide_eq_true (fun i (hi : i < us.length) => by rw [hl _ (List.getElem_mem _), h.2])]
    rfl
  refine ⟨?_, hc⟩
  obtain ⟨hp, _⟩ : ptsB p = true ∧ True := ⟨by unfold depOk at h; rw [Bool.and_eq_true] at h; exact h.1, trivial⟩
  obtain ⟨_, _, h1, _⟩ := ptsB_true.1 hp
  obtain ⟨k, hk⟩ := dep_ex (c := colsL p) (by omega) (vecs (fromM (colsL p) p y))
  rw [depV_yes h hk]
  unfold cntV
  rw [hc, if_pos rfl]
  exact lexc_least _ _ _ hk (allZ_no hl hz)
theorem cnt_okz {p us : Mat} {y : List Rat} (h : depOk p y = true) (hl : ∀ r ∈ us, r.length = colsL p) : cntOk p y us = true := by
  unfold depOk at h
  unfold cntOk
  rw [← Bool.and_assoc, h]
  rw [Bool.and_eq_true, decide_eq_true_eq] at h
  rw [decide_eq_true (fun i (hi : i < us.length) => by rw [hl _ (List.getElem_mem _), h.2])]
  rfl
end Go.Lin
namespace Go.Proofs.YthipmbmjodhiiaaGreat
open Go.RowKit Go.Rep Go.Lim Go.Lin
theorem lit_row3 (X : Nat → Bool) (w : World) (a1 a2 a3 : Option Addr) (n c1 c2 c3 : Nat) (l1 l2 l3 : List Rat) (e : TypeId) (hX : ∀ k, X k = true → k < w.heap.size) (h1 : RV (mk X w) (.slice a1 n c1) l1) (h2 : RV (mk X w) (.slice a2 n c2) l2) (h3 : RV (mk X w) (.slice a3 n c3) l3) :
    OL RV 1 X w.heap.size e (w.alloc (.cells #[.slice a1 n c1, .slice a2 n c2, .slice a3 n c3] e)) (some ⟨w.heap.size, 0, none⟩) 3 [l1, l2, l3] :=
  OL.lit RV.elem hX (Nat.le_refl _) [.slice a1 n c1, .slice a2 n c2, .slice a3 n c3] [l1, l2, l3] _ (by simp [cellsL, Value.cells]) rfl (fun i hi _ => by
    match i, hi with
    | 0, _ => exact h1
    | 1, _ => exact h2
    | 2, _ => exact h3) (by simp)
/-- What holds behind the tape's block holds from the call's start. -/
theorem tape_all {tb : Nat} {w w1 w2 : World} (h : w.heap.size = tb) (hE : Ext w w1) (h2 : ExtX (tbm tb) w1 w2) : Ext w w2 := hE.then_ h2 fun i hi _ => tbm_ne (by omega)
theorem noX_le (X : Nat → Bool) (w : World) : Le (mk X w) (mk noY w) := mk_sub fun k _ hk => by simp [noY] at hk

set_option maxRecDepth 100000 in
set_option maxHeartbeats 3200000 in
theorem hleast_any (lo : Option Addr) (l : List Int) (cl : Nat) (w : World) (hl : Sl (IntIn .i64) 1 w.cell? lo l) (hcl : l.length ≤ cl) (hlb : l.length ≤ 9223372036854775807) :
    Calls Tryz.prog 8 #[.slice lo l.length cl] w (BOut w true) := by
  go_enter Tryz.func8, Tryz.ntmps8
  go_wp2_with fail
  refine (tnew_any lo l cl w hl hcl hlb).mono ?_
  rintro e w1 ⟨rfl, hE1, ht1, hsz1⟩
  obtain ⟨tb, htb⟩ : ∃ tb, w.heap.size = tb := ⟨_, rfl⟩
  have hX1 : HX (tbm tb) w1 := fun k hk => by
    have : k = tb := by simpa [tbm] using hk
    omega
  have hfin := hid (fun w2 (h : ExtX (tbm tb) w1 w2) => tape_all htb hE1 h)
  rw [htb] at ht1 ⊢
  obtain ⟨X, hX⟩ : ∃ X, tbm tb = X := ⟨_, rfl⟩
  have hsub : ∀ k, tbm tb k = true → X k = true := fun k hk => by rw [← hX]; exact hk
  rw [hX] at ht1 hX1
  have hXe := hid hX
  clear hE1 hsz1 htb hl hX
  go_wp2_with fail
  refine (next_any X tb 3 w1 ht1 (by omega)).mono ?_
  rintro e w2 ⟨hE2, ht2, d0, rfl, hd0⟩
  have hX2 := hX1.ext hE2
  have hd1 : (1 + (d0 : Int)) = ((d0 + 1 : Nat) : Int) := by omega
  have hd3 : d0 + 1 ≤ 3 := by omega
  obtain ⟨d, hd⟩ : ∃ d, d0 + 1 = d := ⟨_, rfl⟩
  have hdp : 1 ≤ d := by omega
  rw [hd] at hd3 hd1
  clear hd hd0
  go_wp2_with fail
  refine (tpoints_any X tb 8 d w2 ht2 hX2 (by decide) (by decide) (by omega)).mono ?_
  rintro e w3 ⟨hE3, po, p, pc, rfl, hpc, hp1, hp8, hpr, hpB, ht3, hO3⟩
  have hX3 := hX2.ext hE3
  have hF3 := hE2.trans hE3
  have hpS := (hO3.toRV (hpB.le (by decide))).sl RV.elem
  have ht3 := ht3.unX ht1.1
  obtain ⟨n, hn⟩ : ∃ n, p.length = n := ⟨_, rfl⟩
  have hn' := hid hn
  rw [hn] at hpc hp1 hp8 ⊢
  have hpV : MV (mk X w3) (.slice po n pc) p := ⟨po, pc, by rw [hn], by rw [hn]; exact hpc, hpS⟩
  clear hO3 hE2 hE3 ht1 ht2 hX1 hX2 hn hd1 hpS
  go_wp2_with fail
  refine (tat_any X tb w3 (.slice po n pc) p 510 4 ht3 hX3 hpV (by rw [hn'.out]; omega) hpB (fun r hr => by rw [hpr r hr]; omega) (by decide) (by decide) (by decide)).mono ?_
  rintro e w4 ⟨hE4, ht4, yv, y, rfl, hy, hyB, hyl⟩
  have hF4 := hF3.trans hE4
  have hX4 := hX3.ext hE4
  have hp4 := MV.mono _ _ _ _ (mk_mono hE4 hsub) hpV
  have hdep := hdepth_any X w4 (.slice po n pc) yv p y 1023 hX4 hp4 hy (by rw [hn'.out]; omega) (hpB.le (by decide)) hyB (by decide) (by decide)
  obtain ⟨ya, yc, rfl, hyc, hys⟩ := hy
  have hpts : Hid (ptsB p = true ∧ colsL p = d) := hid (pts_of (by rw [hn'.out]; exact hp1) (by rw [hn'.out]; omega) hdp hd3 hpr)
  have hno : Hid (depOk p y = false → y.length ≠ d) := hid fun h e => by
    unfold depOk at h; rw [hpts.out.1, hpts.out.2, decide_eq_true e] at h; simp at h
  have hyes : Hid (depOk p y = true → y.length = d) := hid fun h => by
    have := (depOk_parts h).2
    rw [hpts.out.2] at this; exact this
  have hcount := hid (fun w' (us : List (List Rat)) (uv : Value) (h1 : ExtX (tbm tb) w4 w') (h2 : HX X w') (h3 : MV (mk X w') uv us) (h4 : us.length ≤ 1000) (h5 : BM 2 us) => hcount_any X w' (.slice po n pc) (.slice ya y.length yc) uv p y us 1023 2 h2 (MV.mono _ _ _ _ (mk_mono h1 hsub) hp4) (RV.mono _ _ _ _ (mk_mono h1 hsub) ⟨ya, yc, rfl, hyc, hys⟩) h3 (by rw [hn'.out]; omega) h4 (hpB.le (by decide)) hyB h5 (by decide) (by decide) (by decide))
  have hcl2 := hid (fun (us : List (List Rat)) (h : depOk p y = true) (hl : ∀ r ∈ us, r.length = d) => (cnt_okz h (by rw [hpts.out.2]; exact hl) : cntOk p y us = true))
  have hcl3 := hid (fun (us : List (List Rat)) (h : depOk p y = true) (hl : ∀ r ∈ us, r.length = d) (hz : allZ us = false) => ((cnt_least h (by rw [hpts.out.2]; exact hl) hz).1 : depV p y ≤ cntV p y us))
  obtain ⟨V, hV⟩ : ∃ V, depV p y = V := ⟨_, rfl⟩
  rw [hV] at hdep hcl3
  cases hok : depOk p y
  · rw [hok, show okE false = 6 from rfl] at hdep
    have hyd := hno.out hok
    obtain ⟨yl, hyl'⟩ : ∃ yl, y.length = yl := ⟨_, rfl⟩
    rw [hyl'] at hdep hyd ⊢
    have hne : ((yl : Int) != (d : Int)) = true := bneT (by omega)
    clear hV hok hcount hcl2 hcl3 hpV hp4 hys hyc hyl' hyl
    go_wp2_with fail
    refine hdep.mono ?_
    rintro e w5 ⟨hE5, rfl⟩
    clear hdep
    go_wp2_with fail
    refine (awake25_any w5).mono ?_
    rintro e w6 ⟨hE6, rfl⟩
    go_wp2_with fail
    go_ret
    exact ⟨hfin.out _ (by rw [hXe.out] at *; exact hF4.then_ (hE5.trans hE6) (fun _ _ _ => rfl)), rfl⟩
  rw [hok] at hdep hcl2 hcl3
  rw [show okE true = 0 from rfl] at hdep
  have hyd := hyes.out hok
  rw [hyd] at hdep hcount ⊢
  clear hV hok hpV hp4 hys hyc hyl hno hyes hyd
  go_wp2_with fail
  refine hdep.mono ?_
  rintro e w5 ⟨hE5, rfl⟩
  have ht5 := ht4.ext hE5
  have hX5 := hX4.ext hE5
  have hE45 : ExtX (tbm tb) w4 w5 := ExtX.of hE5
  clear hdep
  go_wp2_with fail
  go_loopw [9] (fun cx wr => ∃ q : Nat, cx = .int .i64 q ∧ q ≤ 8 ∧ TapeR X tb wr ∧ ExtX (tbm tb) w4 wr) (fun cx _ => 8 - (intOf cx).toNat)
  case atStart => exact ⟨0, rfl, Nat.zero_le _, ht5, hE45⟩
  case round =>
    obtain ⟨q, rfl, hq, htr, hE⟩ := hrel
    have hXr : HX X wr := hX4.ext hE
    by_cases hlt : q < 8
    · go_wp2_with fail
      refine (trow_any X tb d wr htr hXr (by omega)).mono ?_
      rintro e v1 ⟨hG1, a1, r1, c1, rfl, hr1, hc1, hB1, hs1, hO1⟩
      have s1 := hs1.unX htr.1
      have x1 := hXr.ext hG1
      have R1 : RV (mk X v1) (.slice a1 d c1) r1 := ⟨a1, c1, by rw [hr1], by rw [hr1]; exact hc1, (hO1.sl QC.elem).qv fun q hq => Nat.le_trans (hB1 q hq) (by decide)⟩
      go_wp2_with fail
      refine (trow_any X tb d v1 s1 x1 (by omega)).mono ?_
      rintro e v2 ⟨hG2, a2, r2, c2, rfl, hr2, hc2, hB2, hs2, hO2⟩
      have s2 := hs2.unX htr.1
      have x2 := x1.ext hG2
      have R2 : RV (mk X v2) (.slice a2 d c2) r2 := ⟨a2, c2, by rw [hr2], by rw [hr2]; exact hc2, (hO2.sl QC.elem).qv fun q hq => Nat.le_trans (hB2 q hq) (by decide)⟩
      go_wp2_with fail
      refine (trow_any X tb d v2 s2 x2 (by omega)).mono ?_
      rintro e v3 ⟨hG3, a3, r3, c3, rfl, hr3, hc3, hB3, hs3, hO3⟩
      have s3 := hs3.unX htr.1
      have x3 := x2.ext hG3
      have R3 : RV (mk X v3) (.slice a3 d c3) r3 := ⟨a3, c3, by rw [hr3], by rw [hr3]; exact hc3, (hO3.sl QC.elem).qv fun q hq => Nat.le_trans (hB3 q hq) (by decide)⟩
      have hL := (lit_row3 X v3 a1 a2 a3 d c1 c2 c3 r1 r2 r3 27 x3 (RV.mono _ _ _ _ (mk_mono (hG2.trans hG3) hsub) R1) (RV.mono _ _ _ _ (mk_mono hG3 hsub) R2) R3).sl RV.elem
      have hEa : Ext v3 (v3.alloc (.cells #[.slice a1 d c1, .slice a2 d c2, .slice a3 d c3] 27)) := (ExtX.refl _).alloc _
      obtain ⟨v4, hv4⟩ : ∃ v4, v3.alloc (.cells #[.slice a1 d c1, .slice a2 d c2, .slice a3 d c3] 27) = v4 := ⟨_, rfl⟩
      obtain ⟨g, hg⟩ : ∃ g : Option Addr, some ⟨v3.heap.size, 0, none⟩ = g := ⟨_, rfl⟩
      obtain ⟨LL, hLL⟩ : ∃ LL : List (List Rat), [r1, r2, r3] = LL := ⟨_, rfl⟩
      rw [hv4, hg, hLL] at hL
      rw [hv4] at hEa
      have s4 := s3.ext hEa
      have hLd : Hid (LL.length = 3 ∧ (∀ r ∈ LL, r.length = d) ∧ BM 2 LL) := hid (by
        subst hLL
        refine ⟨rfl, fun r hr => ?_, fun r hr => ?_⟩
        · simp only [List.mem_cons, List.not_mem_nil, or_false] at hr
          rcases hr with rfl | rfl | rfl <;> assumption
        · simp only [List.mem_cons, List.not_mem_nil, or_false] at hr
          rcases hr with rfl | rfl | rfl <;> assumption)
      have hEv4 : ExtX (tbm tb) w4 v4 := (((hE.trans hG1).trans hG2).trans hG3).then_ hEa (fun _ _ _ => rfl)
      have x4 := x3.ext hEa
      clear hs1 hO1 R1 hs2 hO2 R2 hs3 hO3 R3 hG1 hG2 hG3 s1 s2 s3 x1 x2 x3 hLL hr1 hr2 hr3 hc1 hc2 hc3 hB1 hB2 hB3 hE htr hXr
      go_wp2_with fail
      refine (next_any X tb 3 v4 s4 (by omega)).mono ?_
      rintro e v5 ⟨hE5', ht5', k0, rfl, hk0⟩
      have hEv5 := hEv4.trans hE5'
      have x5 := x4.ext hE5'
      have hL5 := hL.mono RV.mono (mk_mono hE5' hsub)
      have hk1 : (1 + (k0 : Int)) = ((k0 + 1 : Nat) : Int) := by omega
      obtain ⟨k, hk⟩ : ∃ k, k0 + 1 = k := ⟨_, rfl⟩
      have hk3 : k ≤ 3 := by omega
      rw [hk] at hk1
      clear hk hk0 hL s4 hEv4 x4 hE5'
      have hcapL := hL5.hd
      obtain ⟨hLl, hLr, hLB⟩ := hLd.out
      obtain ⟨us, hus⟩ : ∃ us, LL.take k = us := ⟨_, rfl⟩
      have husl : us.length = k := by rw [← hus, List.length_take]; omega
      have husr : Hid (∀ r ∈ us, r.length = d) := hid fun r hr => by rw [← hus] at hr; exact hLr r (List.mem_of_mem_take hr)
      have husB : BM 2 us := fun r hr => by rw [← hus] at hr; exact hLB r (List.mem_of_mem_take hr)
      have hus5 : Sl RV 1 (mk X v5) g us := by rw [← hus]; exact hL5.take k
      have hhu : Hd g k := by have := hus5.hd; rw [husl] at this; exact this
      have husl' := hid husl
      have hct := hid (fun w' (h1 : ExtX (tbm tb) w4 w') (h2 : HX X w') (h3 : MV (mk X w') (.slice g k 3) us) => hcount.out w' us (.slice g k 3) h1 h2 h3 (by rw [husl'.out]; omega) husB)
      have hzc := hid (hcl3.out us trivial husr.out)
      have hok1 := hcl2.out us trivial husr.out
      rw [hok1, show okE true = 0 from rfl] at hct
      obtain ⟨CV, hCV⟩ : ∃ CV, cntV p y us = CV := ⟨_, rfl⟩
      rw [hCV] at hct hzc
      clear hLl hLr hLB hLd hcapL hus husl hL5 husB hok1 hCV
      obtain ⟨wo, hwo⟩ : ∃ wo, wo = v5 := ⟨_, rfl⟩
      subst hwo
      go_wp2_with fail
      go_loopw [11, 68] (fun o cx wr => ∃ (i : Nat) (b : Bool), cx = .int .i64 i ∧ i ≤ k ∧ o = .bool b ∧ Hid (b = allZ (us.take i)) ∧ Ext wo wr) (fun _ cx _ => k - (intOf cx).toNat)
      case atStart => exact ⟨0, true, rfl, Nat.zero_le _, rfl, hid rfl, ExtX.refl _⟩
      case round =>
        obtain ⟨i, b, rfl, hi, rfl, hb, hEi⟩ := hrel
        have hXi : HX X wr := x5.ext hEi
        by_cases hli : i < k
        · have hiu : i < us.length := by rw [husl'.out]; exact hli
          obtain ⟨a1, c1, hX1', hc1, hcl1, hq1⟩ := (hus5.mono RV.mono (mk_ext hEi)).row i hiu
          have k00 := hc1.out noY wr (ExtX.refl _) rfl
          have hrl := husr.out us[i] (List.getElem_mem _)
          have hsu := hid (allZ_succ hiu)
          obtain ⟨r, hr⟩ : ∃ r, us[i] = r := ⟨_, rfl⟩
          rw [hr] at k00 hrl hsu hq1
          rw [hrl] at k00
          have hrl' := hid hrl
          have hh1 : Hd a1 d := by have := hq1.hd; rw [hrl] at this; exact this
          clear hc1 hrl hr hcl1
          obtain ⟨wi, hwi⟩ : ∃ wi, wi = wr := ⟨_, rfl⟩
          subst hwi
          go_wp2_with (with_reducible refine up_ix1 slRats (by omega) (by assumption) ?_)
          go_loopw [11, 74] (fun o cx wr => ∃ (j : Nat) (b2 : Bool), cx = .int .i64 j ∧ j ≤ d ∧ o = .bool b2 ∧ Hid (b2 = (b && zeroB (r.take j))) ∧ Ext wi wr) (fun _ cx _ => d - (intOf cx).toNat)
          case atStart => exact ⟨0, b, rfl, Nat.zero_le _, rfl, hid (by simp [zeroB]), ExtX.refl _⟩
          case round =>
            obtain ⟨j, b2, rfl, hj, rfl, hb2, hEj⟩ := hrel
            clear k00
            have hXj : HX X wr := hXi.ext hEj
            by_cases hlj : j < d
            · have hjr : j < r.length := by rw [hrl'.out]; exact hlj
              have hzs := hid (zeroB_succ hjr)
              have hq2 := hq1.mono QV.mono (mk_ext hEj)
              have bx := Bx.new wr #[.bool false, .slice none 0 0, .slice none 0 0] 34
              cases b2
              · have hb3 : Hid (false = (b && zeroB (r.take (j + 1)))) := hid (by rw [hzs.out, ← Bool.and_assoc, ← hb2.out]; rfl)
                go_wp2_with (first | (with_reducible refine up_ixn slRat (by omega) (by assumption) ?_) | ((with_reducible show wpList _ _ _ (⟨_, .load 34 _, _, _, _, _⟩ :: _) _ _); refine st_loadElem stRat j hq2 hjr rfl (by simp) QV.agg ?_; intro u5 hu5; obtain ⟨s5, a5, n5, c5, d5, m5, e5, rfl⟩ := hu5.shape) | ((with_reducible show wpList _ _ _ (⟨_, .store 34 _ _, _, _, _, _⟩ :: _) _ _); refine st_storeBox stRat rfl rfl bx rfl rfl (one3 _ _ _ _ _ _ _) ?_; intro w5 y1 y2; have hE5 : Ext wr w5 := ExtX.box ((ExtX.refl wr).alloc _) y2 (Nat.le_refl _)))
                have hE9 := hEj.trans hE5
                go_roundw
                case rel => exact ⟨j + 1, false, by go_num, by omega, rfl, hb3, hE9⟩
                case measure => simp [intOf]; omega
              · obtain ⟨x, hx⟩ : ∃ x, r[j] = x := ⟨_, rfl⟩
                have hx' := hid hx
                rw [hx] at hzs
                have hb3 : Hid (decide (x = 0) = (b && zeroB (r.take (j + 1)))) := hid (by rw [hzs.out, ← Bool.and_assoc, ← hb2.out]; rfl)
                clear hx
                go_wp2_with (first | (with_reducible refine up_ixn slRat (by omega) (by assumption) ?_) | ((with_reducible show wpList _ _ _ (⟨_, .load 34 _, _, _, _, _⟩ :: _) _ _); refine st_loadElem stRat j hq2 hjr rfl (by simp) QV.agg ?_; intro u5 hu5; rw [hx'.out] at hu5; obtain ⟨s5, a5, n5, c5, d5, m5, e5, rfl⟩ := hu5.shape) | ((with_reducible show wpList _ _ _ (⟨_, .store 34 _ _, _, _, _, _⟩ :: _) _ _); refine st_storeBox stRat rfl rfl bx rfl rfl (one3 _ _ _ _ _ _ _) ?_; intro w5 y1 y2; have hE5 : Ext wr w5 := ExtX.box ((ExtX.refl wr).alloc _) y2 (Nat.le_refl _); have k10 := y1.cell 0 rfl; have k11 := y1.cell 1 rfl; have k12 := y1.cell 2 rfl; have hX5 := hXj.ext hE5; have hu6 := mkx QV.mono hu5 hE5))
                refine (rqsign X _ _ _ hX5 hu6).mono ?_
                rintro e w7 ⟨hE7, rfl⟩
                have hE9 := hEj.trans (hE5.trans hE7)
                have hsb : Hid ((x.num.sign == 0) = decide (x = 0)) := hid (by
                  rcases sign_cases x with ⟨h1, h2⟩ | ⟨h1, h2⟩ | ⟨h1, h2⟩
                  · rw [h2, decide_eq_false (by intro h; rw [h] at h1; exact absurd h1 (by grind))]; rfl
                  · rw [h2, decide_eq_true h1]; rfl
                  · rw [h2, decide_eq_false (by intro h; rw [h] at h1; exact absurd h1 (by grind))]; rfl)
                obtain ⟨b4, hb4⟩ : ∃ b4, decide (x = 0) = b4 := ⟨_, rfl⟩
                rw [hb4] at hsb hb3
                have hsb2 := hsb.out
                clear k10 k11 k12 hb4 bx
                go_wp2_with fail
                go_roundw
                case rel => exact ⟨j + 1, b4, by go_num, by omega, by rw [← hsb2], hb3, hE9⟩
                case measure => simp [intOf]; omega
            · have hjd : j = d := by omega
              have hb3 : Hid (b2 = allZ (us.take (i + 1))) := hid (by
                have h1 := hb2.out
                rw [List.take_of_length_le (by rw [hrl'.out, hjd]; exact Nat.le_refl _)] at h1
                rw [h1, hsu.out, ← hb.out])
              have hE9 := hEi.trans hEj
              go_wp2_with fail
              go_roundw
              case rel => exact ⟨i + 1, b2, by go_num, by omega, rfl, hb3, hE9⟩
              case measure => simp [intOf]; omega
        · have hik : i = k := by omega
          have hbf : Hid (b = allZ us) := hid (by rw [hb.out, List.take_of_length_le (by rw [husl'.out, hik]; exact Nat.le_refl _)])
          have hEw : ExtX (tbm tb) w4 wr := hEv5.then_ hEi (fun _ _ _ => rfl)
          have hcc := hct.out wr hEw hXi ⟨g, 3, by rw [husl'.out], by rw [husl'.out]; exact hk3, hus5.mono RV.mono (mk_ext hEi)⟩
          have ht6 := ht5'.ext hEi
          have hfin1 : Hid (b = false → V ≤ CV) := hid fun h => hzc.out (by rw [← hbf.out]; exact h)
          clear hb
          go_wp2_with fail
          refine hcc.mono ?_
          rintro e w6 ⟨hE6, rfl⟩
          have ht7 := ht6.ext hE6
          have hE9 : ExtX (tbm tb) w4 w6 := hEw.then_ hE6 (fun _ _ _ => rfl)
          clear hcc
          cases b
          · have hVC := hfin1.out rfl
            have hlt2 : ¬ (CV : Int) < (V : Int) := by omega
            go_wp2_with fail
            go_roundw
            case rel => exact ⟨q + 1, by go_num, by omega, ht7, hE9⟩
            case measure => simp [intOf]; omega
          · go_wp2_with fail
            go_roundw
            case rel => exact ⟨q + 1, by go_num, by omega, ht7, hE9⟩
            case measure => simp [intOf]; omega
    · go_wp2_with fail
      refine (awake25_any wr).mono ?_
      rintro e w6 ⟨hE6, rfl⟩
      go_wp2_with fail
      go_ret
      exact ⟨hfin.out _ (by rw [hXe.out] at *; exact (hF4.trans hE).then_ hE6 (fun _ _ _ => rfl)), rfl⟩
end Go.Proofs.YthipmbmjodhiiaaGreat
