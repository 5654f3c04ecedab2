/- law 25: HalfspaceOutside. Conditions: none. -/
import Derived.Test.YthipmbmjodhiiaaGreatHxM
namespace Go.Lin
open Go.Lim Go.Rep Go.Proofs.YthipmbmjodhiiaaGreat
theorem ok_of {p : Mat} {y : List Rat} {d : Nat} (h : ptsB p = true /\ colsL p = d) (hy : y.length = d) : depOk p y = true := by
  unfold depOk; rw [h.1, h.2, decide_eq_true hy]; rfl
def sameN (p : Mat) (y : List Rat) : Nat := p.countP fun r => decide (r = y)
theorem sameN_succ {p : Mat} {y : List Rat} {j : Nat} (h : j < p.length) : sameN (p.take (j + 1)) y = sameN (p.take j) y + (if p[j] = y then 1 else 0) := by
  unfold sameN
  rw [<- List.take_append_getElem h, List.countP_append]
  simp
theorem sameN_le (p : Mat) (y : List Rat) : sameN p y <= p.length := List.countP_le_length
theorem same_dep {p : Mat} {y : List Rat} (h : depOk p y = true) : sameN p y <= depV p y := by
  obtain ⟨_, _, h1, _⟩ := ptsB_true.1 (depOk_parts h).1
  obtain ⟨k, hk⟩ := dep_ex (c := colsL p) (by omega) (vecs (fromM (colsL p) p y))
  rw [depV_yes h hk]
  exact same_le hk
end Go.Lin
namespace Go.Proofs.YthipmbmjodhiiaaGreat
open Go.RowKit Go.Rep Go.Lim Go.Lin
set_option maxRecDepth 100000 in
set_option maxHeartbeats 6400000 in
theorem houts_any (lo : Option Addr) (l : List Int) (cl : Nat) (w : World) (hl : Sl (IntIn .i64) 1 w.cell? lo l) (hcl : l.length <= cl) (hlb : l.length <= 9223372036854775807) :
    Calls Tryz.prog 6 #[.slice lo l.length cl] w (BOut w true) := by
  go_enter Tryz.func6, Tryz.ntmps6
  go_wp2_with fail
  refine (tnew_any lo l cl w hl hcl hlb).mono ?_
  rintro e w1 ⟨rfl, hE1, ht1, hsz1⟩
  obtain ⟨tb, htb⟩ : ∃ tb, w.heap.size = tb := ⟨_, rfl⟩
  have hX1 : HX (tbm tb) w1 := fun k hk => by
    have : k = tb := by simpa [tbm] using hk
    omega
  have hfin := hid (fun w2 (h : ExtX (tbm tb) w1 w2) => tape_all htb hE1 h)
  rw [htb] at ht1 |-
  obtain ⟨X, hX⟩ : ∃ X, tbm tb = X := ⟨_, rfl⟩
  have hsub : ∀ k, tbm tb k = true -> X k = true := fun k hk => by rw [<- hX]; exact hk
  rw [hX] at ht1 hX1
  have htX := ht1.1
  clear hE1 hsz1 htb hl hX
  go_wp2_with fail
  refine (next_any X tb 3 w1 ht1 (by omega)).mono ?_
  rintro e w2 ⟨hE2, ht2, d0, rfl, hd0⟩
  have hX2 := hX1.ext hE2
  have hd1 : (1 + (d0 : Int)) = ((d0 + 1 : Nat) : Int) := by omega
  have hd3 : d0 + 1 <= 3 := by omega
  obtain ⟨d, hd⟩ : ∃ d, d0 + 1 = d := ⟨_, rfl⟩
  have hdp : 1 <= d := by omega
  rw [hd] at hd3 hd1
  clear hd hd0
  go_wp2_with fail
  refine (tpoints_any X tb 7 d w2 ht2 hX2 (by decide) (by decide) (by omega)).mono ?_
  rintro e w3 ⟨hE3, po, p, pc, rfl, hpc, hp1, hp8, hpr, hpB, ht3, hO3⟩
  have hX3 := hX2.ext hE3
  have hF3 := hE2.trans hE3
  have hpC := hO3.sl RC.elem
  have hpS := (hO3.toRV (hpB.le (by decide))).sl RV.elem
  have ht3 := ht3.unX htX
  have hpr' := hid hpr
  have hpts : Hid (ptsB p = true /\ colsL p = d) := hid (pts_of hp1 (by omega) hdp hd3 hpr)
  obtain ⟨n, hn⟩ : ∃ n, p.length = n := ⟨_, rfl⟩
  have hn' := hid hn
  rw [hn] at hpc hp1 hp8 |-
  have hpV : MV (mk X w3) (.slice po n pc) p := ⟨po, pc, by rw [hn], by rw [hn]; exact hpc, hpS⟩
  have hhp : Hd po n := by have := hpC.hd; rw [hn] at this; exact this
  clear hO3 hE2 hE3 ht1 ht2 hX1 hX2 hn hd1 hpS hpr
  go_wp2_with fail
  refine (next_any X tb (n : Int) w3 ht3 (by omega)).mono ?_
  rintro e w4 ⟨hE4, ht4, i, rfl, hi⟩
  have hin : i < n := by omega
  have hip : i < p.length := by rw [hn'.out]; exact hin
  have hF4 := hF3.trans hE4
  have hX4 := hX3.ext hE4
  have hpV4 := MV.mono _ _ _ _ (mk_mono hE4 hsub) hpV
  have hpC4 := hpC.mono RC.mono (mk_mono hE4 hsub)
  obtain ⟨ai, ci, _, hci, hcli, hqi⟩ := hpC4.row i hip
  have k00 := hci.out noY w4 (ExtX.refl _) rfl
  have hyd := hpr'.out p[i] (List.getElem_mem _)
  have hyB : BR 510 p[i] := hpB _ (List.getElem_mem _)
  obtain ⟨y, hy⟩ : ∃ y, p[i] = y := ⟨_, rfl⟩
  rw [hy] at hci k00 hcli hqi hyd hyB
  rw [hyd] at hci k00 hcli
  have hok := ok_of hpts.out hyd
  have hyR : RC (mk X w4) (.slice ai d ci) y := ⟨ai, ci, by rw [hyd], by rw [hyd]; exact hcli, hqi⟩
  have hyV : RV (mk X w4) (.slice ai d ci) y := ⟨ai, ci, by rw [hyd], by rw [hyd]; exact hcli, hqi.qv fun q hq => Nat.le_trans (hyB q hq) (by decide)⟩
  have hdep := hdepth_any X w4 (.slice po n pc) (.slice ai d ci) p y 1023 hX4 hpV4 hyV (by rw [hn'.out]; omega) (hpB.le (by decide)) (fun q hq => Nat.le_trans (hyB q hq) (by decide)) (by decide) (by decide)
  rw [hok, show okE true = 0 from rfl] at hdep
  have hsame := hid (same_dep hok)
  obtain ⟨V0, hV0⟩ : ∃ V0, depV p y = V0 := ⟨_, rfl⟩
  rw [hV0] at hdep hsame
  have hi' : (0 : Int) <= (i : Int) /\ (i : Int) < (n : Int) := by omega
  clear hi hE4 hF3 ht3 hX3 hpV hpC hqi hcli hy hok hV0 hyV
  go_wp2_with (with_reducible refine up_ix1 slRats (by omega) (by assumption) ?_)
  refine hdep.mono ?_
  rintro e w5 ⟨hE5, rfl⟩
  have ht5 := ht4.ext hE5
  have hX5 := hX4.ext hE5
  clear hdep k00 ht4
  obtain ⟨wo, hwo⟩ : ∃ wo, wo = w5 := ⟨_, rfl⟩
  subst hwo
  go_wp2_with fail
  go_loopw [9, 42] (fun o cx wr => ∃ (j k : Nat), cx = .int .i64 j /\ j <= n /\ o = .int .i64 k /\ k <= j /\ Hid (k = sameN (p.take j) y) /\ Ext wo wr) (fun _ cx _ => n - (intOf cx).toNat)
  case atStart => exact ⟨0, 0, rfl, Nat.zero_le _, rfl, Nat.zero_le _, hid rfl, ExtX.refl _⟩
  case round =>
    obtain ⟨j, k, rfl, hj, rfl, hkj, hk, hE⟩ := hrel
    have hXr : HX X wr := hX5.ext hE
    have hE45 := hE5.trans hE
    by_cases hlt : j < n
    · have hjp : j < p.length := by rw [hn'.out]; exact hlt
      obtain ⟨aj, cj, _, hcj, hclj, hqj⟩ := (hpC4.mono RC.mono (mk_ext hE45)).row j hjp
      have k00 := hcj.out noY wr (ExtX.refl _) rfl
      have k01 := hci.out noY wr hE45 rfl
      have hrd := hpr'.out p[j] (List.getElem_mem _)
      have hrB : BR 510 p[j] := hpB _ (List.getElem_mem _)
      have hsu := hid (sameN_succ (y := y) hjp)
      obtain ⟨r, hr⟩ : ∃ r, p[j] = r := ⟨_, rfl⟩
      rw [hr] at k00 hclj hqj hrd hrB hsu
      rw [hrd] at k00 hclj
      have hsl := rqsamelist X wr (.slice aj d cj) (.slice ai d ci) r y ⟨aj, cj, by rw [hrd], by rw [hrd]; exact hclj, hqj⟩ (mkx RC.mono hyR hE45) (fun q hq => Nat.le_trans (hrB q hq) (by decide)) (by omega)
      obtain ⟨b, hb⟩ : ∃ b, decide (r = y) = b := ⟨_, rfl⟩
      have hb' := hid hb
      rw [hb] at hsl
      have hj' : (0 : Int) <= (j : Int) /\ (j : Int) < (n : Int) := by omega
      clear hcj hclj hqj hr hrd hb
      go_wp2_with (with_reducible refine up_ix1 slRats (by omega) (by assumption) ?_)
      refine hsl.mono ?_
      rintro e w7 ⟨hE7, rfl⟩
      have hE9 := hE.trans hE7
      clear hsl k00 k01
      cases b
      · have hk2 : Hid (k = sameN (p.take (j + 1)) y) := hid (by rw [hsu.out, if_neg (of_decide_eq_false hb'.out), <- hk.out]; rfl)
        go_wp2_with fail
        go_roundw
        case rel => exact ⟨j + 1, k, by go_num, by omega, rfl, by omega, hk2, hE9⟩
        case measure => simp [intOf]; omega
      · have hk2 : Hid (k + 1 = sameN (p.take (j + 1)) y) := hid (by rw [hsu.out, if_pos (of_decide_eq_true hb'.out), <- hk.out])
        go_wp2_with fail
        go_roundw
        case rel => exact ⟨j + 1, k + 1, by go_num, by omega, by go_num, by omega, hk2, hE9⟩
        case measure => simp [intOf]; omega
    · have hjn : j = n := by omega
      have hk3 : k <= V0 := by
        have h1 := hk.out
        rw [List.take_of_length_le (by rw [hn'.out]; omega)] at h1
        have := hsame.out; omega
      have ht6 := ht5.ext hE
      clear hk hjn hi' hyR hci hsame
      go_wp2_with fail
      refine (trow_any X tb d wr ht6 hXr (by omega)).mono ?_
      rintro e v1 ⟨hG1, a1, x, c1, rfl, hx1, hc1, hB1, hs1, hO1⟩
      have x1 := hXr.ext hG1
      have R1 : RV (mk X v1) (.slice a1 d c1) x := ⟨a1, c1, by rw [hx1], by rw [hx1]; exact hc1, (hO1.sl QC.elem).qv fun q hq => Nat.le_trans (hB1 q hq) (by decide)⟩
      have P1 := MV.mono _ _ _ _ (mk_mono hG1 hsub) (mkx MV.mono hpV4 hE45)
      have hF1 := (hF4.then_ hE45 (fun _ _ _ => rfl)).trans hG1
      have hok := ok_of hpts.out hx1
      have hp65 : p.length <= 1000 := by rw [hn'.out]; omega
      have hxB : BR 1023 x := fun q hq => Nat.le_trans (hB1 q hq) (by decide)
      have hpB2 : BM 1023 p := hpB.le (by decide)
      have D1 := hdepth_any X v1 (.slice po n pc) (.slice a1 d c1) p x 1023 x1 P1 R1 hp65 hpB2 hxB (by decide) (by decide)
      have D2 := hid (fun w' (h : Ext v1 w') => hwit_any X w' (.slice po n pc) (.slice a1 d c1) p x 1023 (x1.ext h) (mkx MV.mono P1 h) (mkx RV.mono R1 h) hp65 hpB2 hxB (by decide) (by decide))
      have D3 := hid (fun w' (us : List (List Rat)) (uv : Value) (h : Ext v1 w') (h3 : MV (mk X w') uv us) (h4 : us.length <= 1000) (h5 : BM uB us) => rcount_any X w' (.slice po n pc) (.slice a1 d c1) uv p x us 1023 uB (x1.ext h) (mkx MV.mono P1 h) (mkx RV.mono R1 h) h3 hp65 h4 hpB2 hxB h5 (by decide) (by decide) (by decide))
      have hlaw := hid (fun us (hl : ∀ r ∈ us, r.length = colsL p) (hw : Wit (colsL p) (vecs (fromM (colsL p) p x)) (depV p x) (vecs us)) => wit_law hok hl hw)
      have hMl : depV p x <= n := by rw [<- hn'.out]; exact depV_le p x
      have hok' := hid hok
      unfold WitOut at D2
      rw [hok, show okE true = 0 from rfl] at D1 D2
      obtain ⟨M, hM⟩ : ∃ M, depV p x = M := ⟨_, rfl⟩
      rw [hM] at D1 D2 hlaw hMl
      have hc3 : colsL p <= 3 := by rw [hpts.out.2]; exact hd3
      obtain ⟨cc, hcc⟩ : ∃ cc, colsL p = cc := ⟨_, rfl⟩
      rw [hcc] at D2 hlaw hc3
      clear hok hM hO1 hs1 R1 P1 hc1 hB1 hxB hpB2 hp65 hpV4 hpC4 ht6 hG1 hE hE45 hx1 hcc ht5 hF4 hX4 hX5 hE5 hpB hyB
      go_wp2_with fail
      refine D1.mono ?_
      rintro e v2 ⟨hG2, rfl⟩
      have D22 := D2.out v2 hG2
      clear D1 D2
      go_wp2_with fail
      refine D22.mono ?_
      rintro e v3 ⟨hG3, uv, us, rfl, huv, huB, _, hus⟩
      obtain ⟨hu1, hu2, hu3, hu4⟩ := hus (by trivial)
      obtain ⟨hl1, hl2, _⟩ := hlaw.out us hu1 hu2
      have D33 := D3.out v3 us uv (hG2.trans hG3) huv (by omega) huB
      rw [hl1, hl2, show okE true = 0 from rfl] at D33
      obtain ⟨ua, uc, rfl, huc, hus5⟩ := huv
      obtain ⟨ul, hul⟩ : ∃ ul, us.length = ul := ⟨_, rfl⟩
      rw [hul] at D33 |-
      clear D22 D3 hus hl1 hl2 hu1 hu2 hlaw huB hul hus5 huc hu3 hu4
      go_wp2_with fail
      refine D33.mono ?_
      rintro e v4 ⟨hG4, rfl⟩
      have s1 : (k : Int) <= (V0 : Int) := by omega
      have s2 : ((M : Int) == (M : Int)) = true := beqT rfl
      have s3 : (0 : Int) <= (M : Int) := by omega
      have s4 : (M : Int) <= (n : Int) := by omega
      clear D33
      go_wp2_with fail
      refine (awake25_any v4).mono ?_
      rintro e v5 ⟨hG5, rfl⟩
      go_wp2_with fail
      go_ret
      exact ⟨(hfin.out _ hF1).trans (hG2.trans (hG3.trans (hG4.trans hG5))), rfl⟩
end Go.Proofs.YthipmbmjodhiiaaGreat
