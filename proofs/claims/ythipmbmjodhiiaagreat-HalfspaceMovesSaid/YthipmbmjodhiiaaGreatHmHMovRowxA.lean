/- reference 23: Dot. Conditions: few numbers of at most 2^36 digits. law 25: image. Conditions: two columns, numbers of few digits. law 25: HalfspaceMoves. Conditions: none. -/
import Derived.Test.YthipmbmjodhiiaaGreatHmK
namespace Go.Proofs.YthipmbmjodhiiaaGreat
open Go.RowKit Go.Rep Go.Lim Go.Lin

set_option maxRecDepth 100000 in
set_option maxHeartbeats 1600000 in
theorem rdot23_any (X : Nat → Bool) (w : World) (u v : Value) (l m : List Rat) (hX : HX X w) (hu : RV (mk X w) u l) (hv : RV (mk X w) v m) (hn : l.length ≤ 1000000) (hml : m.length = l.length) (hb1 : ∀ k, k ≤ l.length → hq (dotN l m k) ≤ 68719476736) (hb2 : ∀ k, k < l.length → hq (l.getD k 0 * m.getD k 0) ≤ 68719476736) :
    Calls Tryz.prog 56 #[u, v] w (ROut X w QC (dotL l m)) := by
  obtain ⟨ao, ca, rfl, hca, hsa⟩ := hu
  obtain ⟨bo, cb, rfl, hcb, hsb⟩ := hv
  have hha := hsa.hd
  have hhb := hsb.hd
  obtain ⟨W, hW, hE, b0, b1, hz⟩ := boxes2 w #[.bool false, .slice none 0 0, .slice none 0 0] #[.bool false, .slice none 0 0, .slice none 0 0] 34 34
  have hXW : HX (hidB X w.heap.size 2) W := hX.boxes hz
  have h0 : QC (mk (hidB X w.heap.size 2) W) (.agg #[.bool false, .slice none 0 0, .slice none 0 0]) (dotN l m 0) := QC.zero _
  obtain ⟨n, hln⟩ : ∃ n, l.length = n := ⟨_, rfl⟩
  rw [hln] at hn hml hb1 hb2 hca hha ⊢
  rw [hml] at hcb hhb ⊢
  have hln' := hid hln
  have hml' := hid hml
  have hb1' := hid hb1
  have hb2' := hid hb2
  have hdot : Hid (dotN l m n = dotL l m) := hid (by unfold dotL; rw [hln])
  clear hln hml hb1 hb2
  go_enter Tryz.func56, Tryz.ntmps56
  go_wp2_with fail
  obtain ⟨b, hb⟩ : ∃ b, w.heap.size = b := ⟨_, rfl⟩
  have hle : Hid (∀ wr, Ext w wr → Le (mk X w) (mk (hidB X b 2) wr)) := hid fun wr h => by rw [← hb]; exact le_boxes h
  have hbw : w.heap.size ≤ b := by omega
  rw [hb] at b0 b1 hXW h0 ⊢
  clear hW
  go_loopw [9] (fun k wr => ∃ (i : Nat) (s : Bool) (a : Option Addr) (n' c' : Nat) (d : Option Addr) (kk e : Nat), k = .int .i64 i ∧ i ≤ n ∧ Bx wr b #[.bool false, .slice none 0 0, .slice none 0 0] 34 ∧ Bx wr (b + 1) #[.bool s, .slice a n' c', .slice d kk e] 34 ∧ QC (mk (hidB X b 2) wr) (.agg #[.bool s, .slice a n' c', .slice d kk e]) (dotN l m i) ∧ HX (hidB X b 2) wr ∧ Ext w wr) (fun k _ => n - (intOf k).toNat)
  case atStart => exact ⟨0, _, _, _, _, _, _, _, rfl, Nat.zero_le _, b0, b1, h0, hXW, hE⟩
  case round =>
    obtain ⟨i, s, a, n', c', d, kk, e, rfl, hi, b0, b1, hq, hXr, hEr⟩ := hrel
    by_cases hlt : i < n
    · have hil : i < l.length := by rw [hln'.out]; exact hlt
      have him : i < m.length := by rw [hml'.out]; exact hlt
      have hsr := hsa.mono QV.mono (hle.out wr hEr)
      have hsr2 := hsb.mono QV.mono (hle.out wr hEr)
      obtain ⟨g1, o1, s1, p1, n1, q1, d1, k1, e1, hg1, hX1, hc1, hq1⟩ := hsr.rat QV.shaped i hil
      obtain ⟨g2, o2, s2, p2, n2, q2, d2, k2, e2, hg2, hX2, hc2, hq2⟩ := hsr2.rat QV.shaped i him
      have gl : Hid (l.getD i 0 = l[i]) := hid (by simp [List.getD_eq_getElem?_getD, hil])
      have gm : Hid (m.getD i 0 = m[i]) := hid (by simp [List.getD_eq_getElem?_getD, him])
      have hst : Hid (dotN l m i + l[i] * m[i] = dotN l m (i + 1)) := hid (by rw [← gl.out, ← gm.out]; rfl)
      have hbo := hid (hb1'.out i hi)
      have hbp := hid (hb2'.out i hlt)
      rw [gl.out, gm.out] at hbp
      obtain ⟨x, hx⟩ : ∃ x, l[i] = x := ⟨_, rfl⟩
      obtain ⟨y, hy⟩ : ∃ y, m[i] = y := ⟨_, rfl⟩
      rw [hx, hy] at hst hbp
      rw [hx] at hq1
      rw [hy] at hq2
      have i1 : ∀ W, (Instr.indexAt 27 (.slice ao n ca) (.int .i64 (i : Int))).run Tryz.prog W = .ok (.pointer (some ⟨g1, o1, none⟩)) W := by rw [← hg1]; exact run_indexAt_adr slRat ao n ca .i64 i hha (by omega)
      have i2 : ∀ W, (Instr.indexAt 27 (.slice bo n cb) (.int .i64 (i : Int))).run Tryz.prog W = .ok (.pointer (some ⟨g2, o2, none⟩)) W := by rw [← hg2]; exact run_indexAt_adr slRat bo n cb .i64 i hhb (by omega)
      obtain ⟨D, hD⟩ : ∃ D, dotN l m i = D := ⟨_, rfl⟩
      obtain ⟨D2, hD2⟩ : ∃ D2, dotN l m (i + 1) = D2 := ⟨_, rfl⟩
      rw [hD] at hq hst hbo
      rw [hD2] at hst
      have hD2' := hid hD2
      clear hx hy hg1 hg2 hD hD2
      have hE5d : Ext wr wr.drew := (ExtX.refl wr).drew
      have b05 := b0.ext0 hE5d
      have b15 := b1.ext0 hE5d
      have k00 := b15.cell 0 rfl
      have k01 := b15.cell 1 rfl
      have k02 := b15.cell 2 rfl
      obtain ⟨k10, k11, k12⟩ := hc1.out noY wr.drew hE5d rfl
      obtain ⟨k20, k21, k22⟩ := hc2.out noY wr.drew hE5d rfl
      have hXd := hXr.ext hE5d
      have hx5 : QV (mk (hidB X b 2) wr.drew) (.agg #[.bool s1, .slice p1 n1 q1, .slice d1 k1 e1]) x := mkx QV.mono hq1 hE5d
      have hy5 : QV (mk (hidB X b 2) wr.drew) (.agg #[.bool s2, .slice p2 n2 q2, .slice d2 k2 e2]) y := mkx QV.mono hq2 hE5d
      have hq5 : QV (mk (hidB X b 2) wr.drew) (.agg #[.bool s, .slice a n' c', .slice d kk e]) D := (mkx QC.mono hq hE5d).qv hbo.out
      clear hc1 hc2
      go_wp2_with fail
      go_region_with (first | (go_at_call 19; (with_reducible refine (rqmul (hidB X b 2) wr.drew _ _ _ _ hXd hx5 hy5).mono ?_); rintro ee w6 ⟨t1, u6, rfl, hu6⟩; obtain ⟨s6, a6, n6, c6, d6, k6, e6, rfl⟩ := hu6.shape; have hX6 := hXd.ext t1; have hq6 := mkx QV.mono hq5 t1; have hm6 := hu6.qv hbp.out; have b16 := b15.ext0 t1; have m0 := b16.cell 0 rfl; have m1 := b16.cell 1 rfl; have m2 := b16.cell 2 rfl) | (go_at_call 48; (with_reducible refine (rqadd (hidB X b 2) w6 _ _ _ _ hX6 hq6 hm6).mono ?_); rintro ee w7 ⟨t7, u7, rfl, hu7⟩; obtain ⟨s7, a7, n7, c7, d7, k7, e7, rfl⟩ := hu7.shape; rw [hst.out] at hu7; have b17 := b16.ext0 t7; have g0 := b17.cell 0 rfl; have g1' := b17.cell 1 rfl; have g2' := b17.cell 2 rfl; have f0 := b17.frozen 0; have f1 := b17.frozen 1; have f2 := b17.frozen 2))
      all_goals
        obtain ⟨z1, z2⟩ := b17.set3 (.bool s7) (.slice a7 n7 c7) (.slice d7 k7 e7)
        have h8 := QC.mono _ _ _ _ (le_store (lo := b) (nb := 2) z2 (by omega) (by omega)) hu7
        have b08 := ((b05.ext0 t1).ext0 t7).ext z2 (ob_other (by omega))
        have hE8 : Ext w _ := ExtX.box (hEr.trans (hE5d.trans (t1.trans t7))) z2 (by omega)
        have hX8 := (hX6.ext t7).ext z2
        rw [← hD2'.out] at h8
        clear k00 k01 k02 k10 k11 k12 k20 k21 k22 m0 m1 m2 g0 g1' g2' f0 f1 f2 i1 i2
        go_wp2_with fail
        go_roundw
        case rel => exact ⟨i + 1, _, _, _, _, _, _, _, by go_num, by omega, b08, z1, h8, hX8, hE8⟩
        case measure => simp [intOf]; omega
    · have hin : i = n := by omega
      subst hin
      rw [hdot.out] at hq
      have k00 := b1.cell 0 rfl
      have k01 := b1.cell 1 rfl
      have k02 := b1.cell 2 rfl
      go_wp2_with ((with_reducible show wpList _ _ _ (⟨_, .store _ _ _, _, _, _, _⟩ :: _) _ _); refine st_storeBox stRat rfl rfl b0 rfl rfl (one3 _ _ _ _ _ _ _) ?_; intro w7 r1 r2)
      have h7 := QC.mono _ _ _ _ le_unbox (QC.mono _ _ _ _ (le_store r2 (by omega) (by omega)) hq)
      exact bodyPost_ret (results_box rfl rfl stRat r1 rfl) rfl ⟨ExtX.box hEr r2 (by omega), _, rfl, h7⟩
end Go.Proofs.YthipmbmjodhiiaaGreat

namespace Go.Rep
open Go.RowKit Go.Lim
theorem dot_bds {l m : List Rat} {B : Nat} (hl : BR B l) (hm : BR B m) (hB1 : 1 ≤ B) (hB : B ≤ 100000) (hn : l.length ≤ 1000) (hml : m.length = l.length) : (∀ k, k ≤ l.length → hq (Go.Lin.dotN l m k) ≤ 68719476736) ∧ (∀ k, k < l.length → hq (l.getD k 0 * m.getD k 0) ≤ 68719476736) := by
  refine ⟨fun k hk => Nat.le_trans (Go.Lin.dotN_hq hl hm hB1 k) ?_, fun k hk => Nat.le_trans (hq_mul _ _) ?_⟩
  · have : k * (2 * B + 1) ≤ 1000 * (2 * 100000 + 1) := Nat.mul_le_mul (by omega) (by omega)
    omega
  · have h1 : hq (l.getD k 0) ≤ B := by
      rw [List.getD_eq_getElem?_getD, List.getElem?_eq_getElem hk]; exact hl _ (List.getElem_mem _)
    have h2 : hq (m.getD k 0) ≤ B := by
      rw [List.getD_eq_getElem?_getD, List.getElem?_eq_getElem (by omega)]; exact hm _ (List.getElem_mem _)
    omega
theorem dot_bd {l m : List Rat} {B : Nat} (hl : BR B l) (hm : BR B m) (hB1 : 1 ≤ B) (hB : B ≤ 100000) (hn : l.length = 2) (hml : m.length = 2) : hq (Go.Lin.dotL l m) ≤ 68719476736 :=
  (dot_bds hl hm hB1 hB (by omega) (by omega)).1 l.length (Nat.le_refl _)
end Go.Rep
namespace Go.Proofs.YthipmbmjodhiiaaGreat
open Go.RowKit Go.Rep Go.Lim Go.Lin

set_option maxRecDepth 100000 in
set_option maxHeartbeats 1600000 in
theorem image_any (X : Nat → Bool) (w : World) (u bv mv : Value) (v b r0 r1 : List Rat) (hX : HX X w) (hu : RV (mk X w) u v) (hb : RV (mk X w) bv b) (hm : MV (mk X w) mv [r0, r1])
    (hv2 : v.length = 2) (hb2 : b.length = 2) (h02 : r0.length = 2) (h12 : r1.length = 2) (hvB : BR 2000 v) (h0B : BR 2000 r0) (h1B : BR 2000 r1) :
    Calls Tryz.prog 22 #[u, bv, mv] w (ROut X w RC (imgL b r0 r1 v)) := by
  obtain ⟨bo, cb, rfl, hcb, hsb⟩ := hb
  obtain ⟨mo, cm, rfl, hcm, hsm⟩ := hm
  have hhb := hsb.hd
  have hhm := hsm.hd
  rw [hb2] at hhb hcb ⊢
  obtain ⟨d01, d02⟩ := dot_bds h0B hvB (by omega) (by omega) (by omega) (by omega)
  obtain ⟨d11, d12⟩ := dot_bds h1B hvB (by omega) (by omega) (by omega) (by omega)
  have hE0 : Ext w w.drew := (ExtX.refl w).drew
  have hXd := hX.ext hE0
  obtain ⟨g1, o1, s1, p1, n1, q1, x1, k1, e1, hg1, _, hc1, hq1⟩ := hsb.rat QV.shaped 0 (by omega)
  obtain ⟨g2, o2, s2, p2, n2, q2, x2, k2, e2, hg2, _, hc2, hq2⟩ := hsb.rat QV.shaped 1 (by omega)
  obtain ⟨a3, c3, _, hc3, hcl3, hq3⟩ := hsm.row 0 (by simp)
  obtain ⟨a4, c4, _, hc4, hcl4, hq4⟩ := hsm.row 1 (by simp)
  have e3 : [r0, r1][0] = r0 := rfl
  have e4 : [r0, r1][1] = r1 := rfl
  rw [e3] at hc3 hcl3 hq3
  rw [e4] at hc4 hcl4 hq4
  have hr0 : RV (mk X w.drew) (.slice a3 r0.length c3) r0 := mkx RV.mono ⟨a3, c3, rfl, hcl3, hq3⟩ hE0
  have hr1 : RV (mk X w.drew) (.slice a4 r1.length c4) r1 := mkx RV.mono ⟨a4, c4, rfl, hcl4, hq4⟩ hE0
  have hud := mkx RV.mono hu hE0
  rw [h02] at hc3 hr0
  rw [h12] at hc4 hr1
  have hb0 : b.getD 0 0 = b[0]'(by omega) := by rw [List.getD_eq_getElem?_getD, List.getElem?_eq_getElem (by omega)]; rfl
  have hb1 : b.getD 1 0 = b[1]'(by omega) := by rw [List.getD_eq_getElem?_getD, List.getElem?_eq_getElem (by omega)]; rfl
  have hS : Hid (∀ w', Ext w.drew w' → (w'.cell? ⟨g1, o1, none⟩ = some (.bool s1) ∧ w'.cell? ⟨g1, o1 + 1, none⟩ = some (.slice p1 n1 q1) ∧ w'.cell? ⟨g1, o1 + 2, none⟩ = some (.slice x1 k1 e1)) ∧ (w'.cell? ⟨g2, o2, none⟩ = some (.bool s2) ∧ w'.cell? ⟨g2, o2 + 1, none⟩ = some (.slice p2 n2 q2) ∧ w'.cell? ⟨g2, o2 + 2, none⟩ = some (.slice x2 k2 e2)) ∧ w'.cell? (adr mo 0) = some (.slice a3 2 c3) ∧ w'.cell? (adr mo 1) = some (.slice a4 2 c4)) := hid fun w' h =>
    ⟨hc1.out noY w' (hE0.trans h) rfl, hc2.out noY w' (hE0.trans h) rfl, hc3.out noY w' (hE0.trans h) rfl, hc4.out noY w' (hE0.trans h) rfl⟩
  have i1 : ∀ W, (Instr.indexAt 27 (.slice bo 2 cb) (.int .i64 0)).run Tryz.prog W = .ok (.pointer (some ⟨g1, o1, none⟩)) W := by rw [← hg1]; exact run_indexAt_adr slRat bo 2 cb .i64 0 hhb (by omega)
  have i2 : ∀ W, (Instr.indexAt 27 (.slice bo 2 cb) (.int .i64 1)).run Tryz.prog W = .ok (.pointer (some ⟨g2, o2, none⟩)) W := by rw [← hg2]; exact run_indexAt_adr slRat bo 2 cb .i64 1 hhb (by omega)
  have i3 : ∀ W, (Instr.indexAt 25 (.slice mo 2 cm) (.int .i64 0)).run Tryz.prog W = .ok (.pointer (some (adr mo 0))) W := run_ix1 slRats mo 2 cm .i64 0 hhm (by omega) rfl
  have i4 : ∀ W, (Instr.indexAt 25 (.slice mo 2 cm) (.int .i64 1)).run Tryz.prog W = .ok (.pointer (some (adr mo 1))) W := run_ix1 slRats mo 2 cm .i64 1 hhm (by omega) rfl
  have hqd1 := mkx QV.mono hq1 hE0
  have hqd2 := mkx QV.mono hq2 hE0
  rw [← hb0] at hqd1
  rw [← hb1] at hqd2
  have B0 := dot_bd h0B hvB (by omega) (by omega) h02 hv2
  have B1 := dot_bd h1B hvB (by omega) (by omega) h12 hv2
  unfold imgL
  obtain ⟨y0, hy0⟩ : ∃ y, b.getD 0 0 = y := ⟨_, rfl⟩
  obtain ⟨y1, hy1⟩ : ∃ y, b.getD 1 0 = y := ⟨_, rfl⟩
  have hd0 := rdot23_any X w.drew _ _ _ _ hXd hr0 hud (by omega) (by omega) d01 d02
  have hd1 := hid fun w' (h : Ext w.drew w') => rdot23_any X w' _ _ _ _ (hXd.ext h) (mkx RV.mono hr1 h) (mkx RV.mono hud h) (by omega) (by omega) d11 d12
  obtain ⟨D0, hD0⟩ : ∃ D, dotL r0 v = D := ⟨_, rfl⟩
  obtain ⟨D1, hD1⟩ : ∃ D, dotL r1 v = D := ⟨_, rfl⟩
  rw [hy0] at hqd1
  rw [hy1] at hqd2
  rw [hD0] at hd0 B0
  rw [hD1] at hd1 B1
  rw [hy0, hy1, hD0, hD1]
  have hlen : [r0, r1].length = 2 := rfl
  rw [hlen]
  clear hc1 hc2 hc3 hc4 hg1 hg2 hq1 hq2 hq3 hq4 hb0 hb1 hy0 hy1 hD0 hD1 hr0 hr1 hud hsb hsm d01 d02 d11 d12 e3 e4 hu hcl3 hcl4 hcm hcb hlen
  go_enter Tryz.func22, Tryz.ntmps22
  go_wp2_with fail
  refine wp_region_K 19 (fun w' => (w'.cell? ⟨g1, o1, none⟩ = some (.bool s1) ∧ w'.cell? ⟨g1, o1 + 1, none⟩ = some (.slice p1 n1 q1) ∧ w'.cell? ⟨g1, o1 + 2, none⟩ = some (.slice x1 k1 e1)) ∧ (w'.cell? ⟨g2, o2, none⟩ = some (.bool s2) ∧ w'.cell? ⟨g2, o2 + 1, none⟩ = some (.slice p2 n2 q2) ∧ w'.cell? ⟨g2, o2 + 2, none⟩ = some (.slice x2 k2 e2)) ∧ w'.cell? (adr mo 0) = some (.slice a3 2 c3) ∧ w'.cell? (adr mo 1) = some (.slice a4 2 c4)) (by kernel_rfl) (by kernel_rfl) (hS.out _ (ExtX.refl _)) (fun hHeld hOnce => ?_)
  refine wpAnyK_take hOnce (i := 0) (oi := ⟨_, _, _, _, _, _⟩) (v := ?_) rfl (by kernel_rfl) (fun _ _ _ h => h) (by assumption) (by rfl) (fun w hSw => ?_) ?_
  rotate_left
  · (try dsimp only at hSw)
    go_simp
    all_goals with_reducible rfl
  (try simp only [Act.put, List.setIfInBounds_toArray, List.set_cons_zero, List.set_cons_succ])
  refine wpAnyK_take hOnce (i := 1) (oi := ⟨_, _, _, _, _, _⟩) (v := ?_) rfl (by kernel_rfl) (fun _ _ _ h => h) (by assumption) (by rfl) (fun w hSw => ?_) ?_
  rotate_left
  · (try dsimp only at hSw)
    go_simp
    all_goals with_reducible rfl
  (try simp only [Act.put, List.setIfInBounds_toArray, List.set_cons_zero, List.set_cons_succ])
  refine wpAnyK_take hOnce (i := 2) (oi := ⟨_, _, _, _, _, _⟩) (v := ?_) rfl (by kernel_rfl) (fun _ _ _ h => h) (by assumption) (by rfl) (fun w hSw => ?_) ?_
  rotate_left
  · (try dsimp only at hSw)
    go_simp
    all_goals with_reducible rfl
  (try simp only [Act.put, List.setIfInBounds_toArray, List.set_cons_zero, List.set_cons_succ])
  refine wpAnyK_take hOnce (i := 3) (oi := ⟨_, _, _, _, _, _⟩) (v := ?_) rfl (by kernel_rfl) (fun _ _ _ h => h) (by assumption) (by rfl) (fun w hSw => ?_) ?_
  rotate_left
  · (try dsimp only at hSw)
    go_simp
    all_goals with_reducible rfl
  (try simp only [Act.put, List.setIfInBounds_toArray, List.set_cons_zero, List.set_cons_succ])
  refine wpAnyK_take hOnce (i := 4) (oi := ⟨_, _, _, _, _, _⟩) (v := ?_) rfl (by kernel_rfl) (fun _ _ _ h => h) (by assumption) (by rfl) (fun w hSw => ?_) ?_
  rotate_left
  · (try dsimp only at hSw)
    go_simp
    all_goals with_reducible rfl
  (try simp only [Act.put, List.setIfInBounds_toArray, List.set_cons_zero, List.set_cons_succ])
  refine wpAnyK_take hOnce (i := 5) (oi := ⟨_, _, _, _, _, _⟩) (v := ?_) rfl (by kernel_rfl) (fun _ _ _ h => h) (by assumption) (by rfl) (fun w hSw => ?_) ?_
  rotate_left
  · (try dsimp only at hSw)
    go_simp
    all_goals with_reducible rfl
  (try simp only [Act.put, List.setIfInBounds_toArray, List.set_cons_zero, List.set_cons_succ])
  refine wpAnyK_take hOnce (i := 6) (oi := ⟨_, _, _, _, _, _⟩) (v := ?_) rfl (by kernel_rfl) (fun _ _ _ h => h) (by assumption) (by rfl) (fun w hSw => ?_) ?_
  rotate_left
  · (try dsimp only at hSw)
    go_simp
    all_goals with_reducible rfl
  (try simp only [Act.put, List.setIfInBounds_toArray, List.set_cons_zero, List.set_cons_succ])
  refine wpAnyK_take hOnce (i := 9) (oi := ⟨_, _, _, _, _, _⟩) (v := ?_) rfl (by kernel_rfl) (fun _ _ _ h => h) (by assumption) (by rfl) (fun w hSw => ?_) ?_
  rotate_left
  · (try dsimp only at hSw)
    go_simp
    all_goals with_reducible rfl
  (try simp only [Act.put, List.setIfInBounds_toArray, List.set_cons_zero, List.set_cons_succ])
  refine wpAnyK_take hOnce (i := 10) (oi := ⟨_, _, _, _, _, _⟩) (v := ?_) rfl (by kernel_rfl) (fun _ _ _ h => h) (by assumption) (by rfl) (fun w hSw => ?_) ?_
  rotate_left
  · (try dsimp only at hSw)
    go_simp
    all_goals with_reducible rfl
  (try simp only [Act.put, List.setIfInBounds_toArray, List.set_cons_zero, List.set_cons_succ])
  refine wpAnyK_take hOnce (i := 11) (oi := ⟨_, _, _, _, _, _⟩) (v := ?_) rfl (by kernel_rfl) (fun _ _ _ h => h) (by assumption) (by rfl) (fun w hSw => ?_) ?_
  rotate_left
  · (try dsimp only at hSw)
    go_simp
    all_goals with_reducible rfl
  (try simp only [Act.put, List.setIfInBounds_toArray, List.set_cons_zero, List.set_cons_succ])
  refine wpAnyK_take hOnce (i := 12) (oi := ⟨_, _, _, _, _, _⟩) (v := ?_) rfl (by kernel_rfl) (fun _ _ _ h => h) (by assumption) (by rfl) (fun w hSw => ?_) ?_
  rotate_left
  · (try dsimp only at hSw)
    go_simp
    all_goals with_reducible rfl
  (try simp only [Act.put, List.setIfInBounds_toArray, List.set_cons_zero, List.set_cons_succ])
  refine wpAnyK_take hOnce (i := 13) (oi := ⟨_, _, _, _, _, _⟩) (v := ?_) rfl (by kernel_rfl) (fun _ _ _ h => h) (by assumption) (by rfl) (fun w hSw => ?_) ?_
  rotate_left
  · (try dsimp only at hSw)
    go_simp
    all_goals with_reducible rfl
  (try simp only [Act.put, List.setIfInBounds_toArray, List.set_cons_zero, List.set_cons_succ])
  refine wpAnyK_take hOnce (i := 14) (oi := ⟨_, _, _, _, _, _⟩) (v := ?_) rfl (by kernel_rfl) (fun _ _ _ h => h) (by assumption) (by rfl) (fun w hSw => ?_) ?_
  rotate_left
  · (try dsimp only at hSw)
    go_simp
    all_goals with_reducible rfl
  (try simp only [Act.put, List.setIfInBounds_toArray, List.set_cons_zero, List.set_cons_succ])
  refine wpAnyK_take hOnce (i := 15) (oi := ⟨_, _, _, _, _, _⟩) (v := ?_) rfl (by kernel_rfl) (fun _ _ _ h => h) (by assumption) (by rfl) (fun w hSw => ?_) ?_
  rotate_left
  · (try dsimp only at hSw)
    go_simp
    all_goals with_reducible rfl
  (try simp only [Act.put, List.setIfInBounds_toArray, List.set_cons_zero, List.set_cons_succ])
  refine wpAnyK_step (i := 7) (o := ⟨_, _, _, _, _, _⟩) (by kernel_rfl) rfl (fun K hK => ?_)
  go_simp
  (go_at_call 56; (with_reducible refine hd0.mono ?_); rintro ee w6 ⟨t1, u6, rfl, hu6⟩)
  refine hK.out _ _ (hS.out w6 t1) (fun hHeld => ?_)
  clear hK K
  (try simp only [Act.put, List.setIfInBounds_toArray, List.set_cons_zero, List.set_cons_succ])
  have ha6 := rqadd X w6 _ _ _ _ (hXd.ext t1) (mkx QV.mono hqd1 t1) (hu6.qv B0)
  refine wpAnyK_step (i := 8) (o := ⟨_, _, _, _, _, _⟩) (by kernel_rfl) rfl (fun K hK => ?_)
  go_simp
  (go_at_call 48; (with_reducible refine ha6.mono ?_); rintro ee w7 ⟨t7, u7, rfl, hu7⟩)
  refine hK.out _ _ (hS.out w7 (t1.trans t7)) (fun hHeld => ?_)
  clear hK K
  (try simp only [Act.put, List.setIfInBounds_toArray, List.set_cons_zero, List.set_cons_succ])
  have t17 := t1.trans t7
  have hd17 := hd1.out w7 t17
  refine wpAnyK_step (i := 16) (o := ⟨_, _, _, _, _, _⟩) (by kernel_rfl) rfl (fun K hK => ?_)
  go_simp
  (go_at_call 56; (with_reducible refine hd17.mono ?_); rintro ee w8 ⟨t8, u8, rfl, hu8⟩)
  refine hK.out _ _ (hS.out w8 (t17.trans t8)) (fun hHeld => ?_)
  clear hK K
  (try simp only [Act.put, List.setIfInBounds_toArray, List.set_cons_zero, List.set_cons_succ])
  have t18 := t17.trans t8
  have ha8 := rqadd X w8 _ _ _ _ (hXd.ext t18) (mkx QV.mono hqd2 t18) (hu8.qv B1)
  refine wpAnyK_step (i := 17) (o := ⟨_, _, _, _, _, _⟩) (by kernel_rfl) rfl (fun K hK => ?_)
  go_simp
  (go_at_call 48; (with_reducible refine ha8.mono ?_); rintro ee w9 ⟨t9, u9, rfl, hu9⟩)
  refine hK.out _ _ (hS.out w9 (t18.trans t9)) (fun hHeld => ?_)
  clear hK K
  (try simp only [Act.put, List.setIfInBounds_toArray, List.set_cons_zero, List.set_cons_succ])
  have t19 := t18.trans t9
  have hx7 := mkx QC.mono hu7 (t8.trans t9)
  have hX9 := hXd.ext t19
  obtain ⟨s10, a10, n10, c10, x10, k10, z10, rfl⟩ := hu7.shape
  obtain ⟨s11, a11, n11, c11, x11, k11, z11, rfl⟩ := hu9.shape
  have hO := OL.lit (e := 34) (base := w9.heap.size) (X := X) (w := w9) QC.elem hX9 (Nat.le_refl _) [.agg #[.bool s10, .slice a10 n10 c10, .slice x10 k10 z10], .agg #[.bool s11, .slice a11 n11 c11, .slice x11 k11 z11]] [y0 + D0, y1 + D1] #[.bool s10, .slice a10 n10 c10, .slice x10 k10 z10, .bool s11, .slice a11 n11 c11, .slice x11 k11 z11] (by simp [cellsL, Value.cells]) rfl (fun i hi _ => by
    match i, hi with
    | 0, _ => exact hx7
    | 1, _ => exact hu9) (by simp)
  have hEa : Ext w9 (w9.alloc (.cells #[.bool s10, .slice a10 n10 c10, .slice x10 k10 z10, .bool s11, .slice a11 n11 c11, .slice x11 k11 z11] 34)) := (ExtX.refl _).alloc _
  refine wpAnyK_step (i := 18) (o := ⟨_, _, _, _, _, _⟩) (by kernel_rfl) rfl (fun K hK => ?_)
  go_simp
  skip
  refine hK.out _ _ (hS.out _ (t19.trans hEa)) (fun hHeld => ?_)
  clear hK K
  (try simp only [Act.put, List.setIfInBounds_toArray, List.set_cons_zero, List.set_cons_succ])
  refine wpAnyK_last (i := 19) (o := ⟨_, _, _, _, _, _⟩) (by kernel_rfl) rfl (by decide) (by kernel_rfl) (fun K hK => ?_)
  go_simp
  refine hK.out _ _ ?_
  clear hK K
  go_wp2_with fail
  go_ret
  exact ⟨hE0.trans (t19.trans hEa), _, rfl, _, 2, rfl, Nat.le_refl _, hO.sl QC.elem⟩
end Go.Proofs.YthipmbmjodhiiaaGreat

namespace Go.Lin
open Go.Lim Go.Rep Go.Proofs.YthipmbmjodhiiaaGreat
theorem img_hq {b r0 r1 v : List Rat} {B : Nat} (hb : BR 2 b) (h0 : BR 2 r0) (h1 : BR 2 r1) (hv : BR B v) (hB : 1 ≤ B) (l0 : r0.length = 2) (l1 : r1.length = 2) : BR (2 * B + 9) (imgL b r0 r1 v) := by
  have key : ∀ (r : List Rat) (i : Nat), BR 2 r → r.length = 2 → hq (b.getD i 0 + dotL r v) ≤ 2 * B + 9 := fun r i hr hl => by
    rw [dotL_two hl]
    have a1 := br_getD hb (by omega) i
    have a2 := br_getD hr (by omega) 0
    have a3 := br_getD hr (by omega) 1
    have a4 := br_getD hv hB 0
    have a5 := br_getD hv hB 1
    have c1 := hq_mul (r.getD 0 0) (v.getD 0 0)
    have c2 := hq_mul (r.getD 1 0) (v.getD 1 0)
    have c3 := hq_add (r.getD 0 0 * v.getD 0 0) (r.getD 1 0 * v.getD 1 0)
    have c4 := hq_add (b.getD i 0) (r.getD 0 0 * v.getD 0 0 + r.getD 1 0 * v.getD 1 0)
    omega
  intro q hq
  unfold imgL at hq
  simp only [List.mem_cons, List.not_mem_nil, or_false] at hq
  rcases hq with rfl | rfl
  · exact key r0 0 h0 l0
  · exact key r1 1 h1 l1
/-- The determinant of two rows. -/
def detW (r0 r1 : List Rat) : Rat := r0.getD 0 0 * r1.getD 1 0 - r0.getD 1 0 * r1.getD 0 0
theorem detW_hq {r0 r1 : List Rat} (h0 : BR 2 r0) (h1 : BR 2 r1) : hq (r0.getD 0 0 * r1.getD 1 0) ≤ 4 ∧ hq (r0.getD 1 0 * r1.getD 0 0) ≤ 4 ∧ hq (detW r0 r1) ≤ 9 := by
  have a2 := br_getD h0 (by omega) 0
  have a3 := br_getD h0 (by omega) 1
  have a4 := br_getD h1 (by omega) 0
  have a5 := br_getD h1 (by omega) 1
  have c1 := hq_mul (r0.getD 0 0) (r1.getD 1 0)
  have c2 := hq_mul (r0.getD 1 0) (r1.getD 0 0)
  have c3 := hq_sub (r0.getD 0 0 * r1.getD 1 0) (r0.getD 1 0 * r1.getD 0 0)
  unfold detW
  omega
theorem getD_at {l : List Rat} {i : Nat} (h : i < l.length) : l.getD i 0 = l[i] := by
  rw [List.getD_eq_getElem?_getD, List.getElem?_eq_getElem h]; rfl
end Go.Lin
namespace Go.Proofs.YthipmbmjodhiiaaGreat
open Go.RowKit Go.Rep Go.Lim Go.Lin

set_option maxRecDepth 100000 in
set_option maxHeartbeats 12800000 in
/-- Used: take_snoc len_take st_append1n old_un rqsign sign_cases beqT beqF bneT bneF img_hq image_any hdepth_any awake25_any fresh_box le_boxes le_unbox hidB_in Bx.new Bx.cell Bx.ext0 ob_other st_storeBox one3 rqsub rqmul NEOut okE BM.le MC.mv RC.rv MC MV OL.sl OL.lit OL.nil OL.unX OL.ob_lt OL.ext0 OL.lenCap OL.hd Sl.old Sl.row Sl.rat mk_over mkun_fresh mk_sub hidF un_false QC.shape QC.qv QV.shape beqT noX_le tape_all hnoX. -/
theorem hmoves_any (lo : Option Addr) (l : List Int) (cl : Nat) (w : World) (hl : Sl (IntIn .i64) 1 w.cell? lo l) (hcl : l.length ≤ cl) (hlb : l.length ≤ 9223372036854775807) :
    Calls Tryz.prog 3 #[.slice lo l.length cl] w (BOut w true) := by
  go_enter Tryz.func3, Tryz.ntmps3
  go_wp2_with fail
  refine (tnew_any lo l cl w hl hcl hlb).mono ?_
  rintro e w1 ⟨rfl, hE1, ht1, hsz1⟩
  obtain ⟨tb, htb⟩ : ∃ tb, w.heap.size = tb := ⟨_, rfl⟩
  have hX1 : HX (tbm tb) w1 := fun k hk => by
    have : k = tb := by simpa [tbm] using hk
    omega
  have hfin := hid (fun w2 (h : ExtX (tbm tb) w1 w2) => tape_all htb hE1 h)
  rw [htb] at ht1 ⊢
  obtain ⟨X, hX⟩ : ∃ X, tbm tb = X := ⟨_, rfl⟩
  have hsub : ∀ k, tbm tb k = true → X k = true := fun k hk => by rw [← hX]; exact hk
  rw [hX] at ht1 hX1
  have hXe := hid hX
  clear hE1 hsz1 htb hl hX
  go_wp2_with fail
  refine (tpoints_any X tb 7 2 w1 ht1 hX1 (by decide) (by decide) (by omega)).mono ?_
  rintro e w2 ⟨hE2, po, p, pc, rfl, hpc, hp1, hp8, hpr, hpB, ht2, hO2⟩
  have hX2 := hX1.ext hE2
  have hpS := (hO2.toRV (hpB.le (by decide))).sl RV.elem
  have ht2 := ht2.unX ht1.1
  have hp65 : p.length ≤ 1000 := by omega
  have hp2 : MV (mk X w2) (.slice po p.length pc) p := ⟨po, pc, rfl, hpc, hpS⟩
  have hpts : Hid (ptsB p = true ∧ colsL p = 2) := hid (pts_of hp1 (by omega) (by decide) (by decide) hpr)
  go_wp2_with fail
  refine (tat_any X tb w2 (.slice po p.length pc) p 510 4 ht2 hX2 hp2 hp65 hpB (fun r hr => by rw [hpr r hr]; omega) (by decide) (by decide) (by decide)).mono ?_
  rintro e w3 ⟨hE3, ht3, yv, y, rfl, hy, hyB, hyl⟩
  have hX3 := hX2.ext hE3
  go_wp2_with fail
  refine (trow_any X tb 2 w3 ht3 hX3 (by omega)).mono ?_
  rintro e w4 ⟨hG1, a1, b, c1, rfl, hr1, hc1, hB1, hs1, hO1⟩
  have s1 := hs1.unX ht1.1
  have x1 := hX3.ext hG1
  have R1 : RV (mk X w4) (.slice a1 2 c1) b := ⟨a1, c1, by rw [hr1], by rw [hr1]; exact hc1, (hO1.sl QC.elem).qv fun q hq => Nat.le_trans (hB1 q hq) (by decide)⟩
  go_wp2_with fail
  refine (trow_any X tb 2 w4 s1 x1 (by omega)).mono ?_
  rintro e w5 ⟨hG2, a2, r0, c2, rfl, hr2, hc2, hB2, hs2, hO2'⟩
  have s2 := hs2.unX ht1.1
  have x2 := x1.ext hG2
  have R2 : RV (mk X w5) (.slice a2 2 c2) r0 := ⟨a2, c2, by rw [hr2], by rw [hr2]; exact hc2, (hO2'.sl QC.elem).qv fun q hq => Nat.le_trans (hB2 q hq) (by decide)⟩
  go_wp2_with fail
  refine (trow_any X tb 2 w5 s2 x2 (by omega)).mono ?_
  rintro e w6 ⟨hG3, a3, r1, c3, rfl, hr3, hc3, hB3, hs3, hO3⟩
  have x3 := x2.ext hG3
  have R3 : RV (mk X w6) (.slice a3 2 c3) r1 := ⟨a3, c3, by rw [hr3], by rw [hr3]; exact hc3, (hO3.sl QC.elem).qv fun q hq => Nat.le_trans (hB3 q hq) (by decide)⟩
  have R26 := RV.mono _ _ _ _ (mk_mono hG3 hsub) R2
  have hL := OL.lit (e := 27) (base := w6.heap.size) (X := X) (w := w6) RV.elem x3 (Nat.le_refl _) [.slice a2 2 c2, .slice a3 2 c3] [r0, r1] #[.slice a2 2 c2, .slice a3 2 c3] (by simp [cellsL, Value.cells]) rfl (fun i hi _ => by
    match i, hi with
    | 0, _ => exact R26
    | 1, _ => exact R3) (by simp)
  have hEa : Ext w6 (w6.alloc (.cells #[.slice a2 2 c2, .slice a3 2 c3] 27)) := (ExtX.refl _).alloc _
  have hE36 := (hG1.trans hG2).trans hG3
  have hp7 : MV (mk noY _) (.slice po p.length pc) p := mkx MV.mono (MV.mono _ _ _ _ (noX_le X w6) (MV.mono _ _ _ _ (mk_mono (hE3.trans hE36) hsub) hp2)) hEa
  have hy7 : RV (mk noY _) yv y := mkx RV.mono (RV.mono _ _ _ _ (noX_le X w6) (RV.mono _ _ _ _ (mk_mono hE36 hsub) hy)) hEa
  have hb7 : RV (mk noY _) (.slice a1 2 c1) b := mkx RV.mono (RV.mono _ _ _ _ (noX_le X w6) (RV.mono _ _ _ _ (mk_mono (hG2.trans hG3) hsub) R1)) hEa
  have hm7 : MV (mk noY _) (.slice (some ⟨w6.heap.size, 0, none⟩) 2 2) [r0, r1] := MV.mono _ _ _ _ (noX_le X _) ⟨_, 2, rfl, Nat.le_refl _, hL.sl RV.elem⟩
  have hF7 := hfin.out _ (by rw [hXe.out] at *; exact ((hE2.trans hE3).trans hE36).then_ hEa (fun _ _ _ => rfl))
  obtain ⟨v7, hv7⟩ : ∃ v7, w6.alloc (.cells #[.slice a2 2 c2, .slice a3 2 c3] 27) = v7 := ⟨_, rfl⟩
  obtain ⟨g, hg⟩ : ∃ g : Option Addr, some ⟨w6.heap.size, 0, none⟩ = g := ⟨_, rfl⟩
  rw [hv7] at hp7 hy7 hb7 hm7 hF7
  rw [hg] at hm7
  have hlaw := hid (fun (hy2 : y.length = 2) (hD : detW r0 r1 ≠ 0) => img_law (by_ := b) hpts.out hpr hy2 hr2 hr3 hD)
  have hhp : Hd po p.length := hpS.hd
  obtain ⟨n, hn⟩ : ∃ n, p.length = n := ⟨_, rfl⟩
  have hn' := hid hn
  have hpr' := hid hpr
  rw [hn] at hp1 hp8 hp7 hpc hhp ⊢
  obtain ⟨ya, yc, rfl, hyc, hys⟩ := hy7
  obtain ⟨yl, hyq⟩ : ∃ yl, y.length = yl := ⟨_, rfl⟩
  have hyq' := hid hyq
  rw [hyq] at hyc hlaw hyl ⊢
  have hyv : RV (mk noY v7) (.slice ya yl yc) y := ⟨ya, yc, by rw [hyq], by rw [hyq]; exact hyc, hys⟩
  clear hfin hXe hsub ht1 hX1 hE2 hO2 hX2 hpS ht2 hp65 hp2 hpts hpr hn hE3 ht3 hX3 hy hG1 hs1 hO1 s1 x1 R1 hG2 hs2 hO2' s2 x2 R2 hG3 hs3 hO3 x3 R3 R26 hL hEa hE36 hys hyq hcl hlb hc1 hc2 hc3
  have hmS := hm7
  obtain ⟨mo, mc, hmo, hmc, hms⟩ := hmS
  simp only [Value.slice.injEq] at hmo
  obtain ⟨rfl, _, rfl⟩ := hmo
  have hhm := hms.hd
  obtain ⟨d1, d2, d3⟩ := detW_hq hB2 hB3
  obtain ⟨a5, c5, _, hc5, hcl5, hq5⟩ := hms.row 0 (by simp)
  obtain ⟨a6, c6, _, hc6, hcl6, hq6⟩ := hms.row 1 (by simp)
  have q3e : [r0, r1][0] = r0 := rfl
  have q4e : [r0, r1][1] = r1 := rfl
  rw [q3e] at hc5 hcl5 hq5
  rw [q4e] at hc6 hcl6 hq6
  have hh5 := hq5.hd
  have hh6 := hq6.hd
  rw [hr2] at hh5 hc5
  rw [hr3] at hh6 hc6
  have hE0 : Ext v7 v7.drew := (ExtX.refl _).drew
  obtain ⟨g1, o1, s1, p1, n1, q1, x1, k1, e1, hg1, _, hk1, hq1⟩ := hq5.rat QV.shaped 0 (by omega)
  obtain ⟨g2, o2, s2, p2, n2, q2, x2, k2, e2, hg2, _, hk2, hq2⟩ := hq5.rat QV.shaped 1 (by omega)
  obtain ⟨g3, o3, s3, p3, n3, q3, x3, k3, e3, hg3, _, hk3, hq3⟩ := hq6.rat QV.shaped 0 (by omega)
  obtain ⟨g4, o4, s4, p4, n4, q4, x4, k4, e4, hg4, _, hk4, hq4⟩ := hq6.rat QV.shaped 1 (by omega)
  rw [← getD_at (by omega)] at hq1 hq2 hq3 hq4
  have hf1 := mkx QV.mono hq1 hE0
  have hf2 := mkx QV.mono hq2 hE0
  have hf3 := mkx QV.mono hq3 hE0
  have hf4 := mkx QV.mono hq4 hE0
  have hS : Hid (∀ w', Ext v7.drew w' → w'.cell? (adr g 0) = some (.slice a5 2 c5) ∧ w'.cell? (adr g 1) = some (.slice a6 2 c6) ∧ (w'.cell? ⟨g1, o1, none⟩ = some (.bool s1) ∧ w'.cell? ⟨g1, o1 + 1, none⟩ = some (.slice p1 n1 q1) ∧ w'.cell? ⟨g1, o1 + 2, none⟩ = some (.slice x1 k1 e1)) ∧ (w'.cell? ⟨g2, o2, none⟩ = some (.bool s2) ∧ w'.cell? ⟨g2, o2 + 1, none⟩ = some (.slice p2 n2 q2) ∧ w'.cell? ⟨g2, o2 + 2, none⟩ = some (.slice x2 k2 e2)) ∧ (w'.cell? ⟨g3, o3, none⟩ = some (.bool s3) ∧ w'.cell? ⟨g3, o3 + 1, none⟩ = some (.slice p3 n3 q3) ∧ w'.cell? ⟨g3, o3 + 2, none⟩ = some (.slice x3 k3 e3)) ∧ (w'.cell? ⟨g4, o4, none⟩ = some (.bool s4) ∧ w'.cell? ⟨g4, o4 + 1, none⟩ = some (.slice p4 n4 q4) ∧ w'.cell? ⟨g4, o4 + 2, none⟩ = some (.slice x4 k4 e4))) := hid fun w' h =>
    ⟨hc5.out noY w' (hE0.trans h) rfl, hc6.out noY w' (hE0.trans h) rfl, hk1.out noY w' (hE0.trans h) rfl, hk2.out noY w' (hE0.trans h) rfl, hk3.out noY w' (hE0.trans h) rfl, hk4.out noY w' (hE0.trans h) rfl⟩
  have i1 : ∀ W, (Instr.indexAt 25 (.slice g 2 2) (.int .i64 0)).run Tryz.prog W = .ok (.pointer (some (adr g 0))) W := run_ix1 slRats g 2 2 .i64 0 hhm (by omega) rfl
  have i2 : ∀ W, (Instr.indexAt 25 (.slice g 2 2) (.int .i64 1)).run Tryz.prog W = .ok (.pointer (some (adr g 1))) W := run_ix1 slRats g 2 2 .i64 1 hhm (by omega) rfl
  have i3 : ∀ W, (Instr.indexAt 27 (.slice a5 2 c5) (.int .i64 0)).run Tryz.prog W = .ok (.pointer (some ⟨g1, o1, none⟩)) W := by rw [← hg1]; exact run_indexAt_adr slRat a5 2 c5 .i64 0 hh5 (by omega)
  have i4 : ∀ W, (Instr.indexAt 27 (.slice a5 2 c5) (.int .i64 1)).run Tryz.prog W = .ok (.pointer (some ⟨g2, o2, none⟩)) W := by rw [← hg2]; exact run_indexAt_adr slRat a5 2 c5 .i64 1 hh5 (by omega)
  have i5 : ∀ W, (Instr.indexAt 27 (.slice a6 2 c6) (.int .i64 0)).run Tryz.prog W = .ok (.pointer (some ⟨g3, o3, none⟩)) W := by rw [← hg3]; exact run_indexAt_adr slRat a6 2 c6 .i64 0 hh6 (by omega)
  have i6 : ∀ W, (Instr.indexAt 27 (.slice a6 2 c6) (.int .i64 1)).run Tryz.prog W = .ok (.pointer (some ⟨g4, o4, none⟩)) W := by rw [← hg4]; exact run_indexAt_adr slRat a6 2 c6 .i64 1 hh6 (by omega)
  have hZ : ∀ (g : Nat) (w' : World), g < w'.heap.size → HX (un noY (some ⟨g, 0, none⟩)) w' := fun g w' h k hk => by
    have : g = k := by simpa [un, noY, ob] using hk
    omega
  have hnb : ∀ g, v7.drew.heap.size ≤ g → ∀ j, j < v7.drew.heap.size → ob (some ⟨g, 0, none⟩) j = false := fun g h j hj => ob_other (by omega)
  have hm1 := hid fun w' (h : Ext v7.drew w') => rqmul noY w' _ _ _ _ (hnoX w') (mkx QV.mono hf1 h) (mkx QV.mono hf4 h)
  have hm2 := hid fun w' (h : Ext v7.drew w') => rqmul noY w' _ _ _ _ (hnoX w') (mkx QV.mono hf2 h) (mkx QV.mono hf3 h)
  have hn1 := hid fun g w' (h : Ext v7.drew w') (h1 : v7.drew.heap.size ≤ g) (h2 : g < w'.heap.size) => rqmul (un noY (some ⟨g, 0, none⟩)) w' _ _ _ _ (hZ g w' h2) (old_un QV.mono hf1 h (hnb g h1)) (old_un QV.mono hf4 h (hnb g h1))
  have hn2 := hid fun g w' (h : Ext v7.drew w') (h1 : v7.drew.heap.size ≤ g) (h2 : g < w'.heap.size) => rqmul (un noY (some ⟨g, 0, none⟩)) w' _ _ _ _ (hZ g w' h2) (old_un QV.mono hf2 h (hnb g h1)) (old_un QV.mono hf3 h (hnb g h1))
  have hsb : Hid (∀ (Z : Nat → Bool) (w' : World) (u1 u2 : Value), HX Z w' → QC (mk Z w') u1 (r0.getD 0 0 * r1.getD 1 0) → QC (mk Z w') u2 (r0.getD 1 0 * r1.getD 0 0) → Calls Tryz.prog 18 #[u1, u2] w' (ROut Z w' QC (detW r0 r1))) := hid fun Z w' u1 u2 hX h1 h2 => rqsub Z w' u1 u2 _ _ hX (h1.qv (Nat.le_trans d1 (by decide))) (h2.qv (Nat.le_trans d2 (by decide)))
  obtain ⟨D, hD⟩ : ∃ D, detW r0 r1 = D := ⟨_, rfl⟩
  rw [hD] at hsb d3 hlaw
  obtain ⟨y1, hy1⟩ : ∃ y, r0.getD 0 0 * r1.getD 1 0 = y := ⟨_, rfl⟩
  obtain ⟨y2, hy2⟩ : ∃ y, r0.getD 1 0 * r1.getD 0 0 = y := ⟨_, rfl⟩
  rw [hy1] at hm1 hn1 hsb
  rw [hy2] at hm2 hn2 hsb
  clear hc5 hc6 hk1 hk2 hk3 hk4 hg1 hg2 hg3 hg4 hq1 hq2 hq3 hq4 hq5 hq6 hcl5 hcl6 hf1 hf2 hf3 hf4 hD d1 d2 hy1 hy2 hms hmc q3e q4e
  go_upto_region 4 with (fail)
  go_cut [8] from 30 to 52 (fun bv wx => ∃ (bb : Nat) (s : Bool) (a : Option Addr) (n' c' : Nat) (d : Option Addr) (k e : Nat), bv = .pointer (some ⟨bb, 0, none⟩) ∧ Bx wx bb #[.bool s, .slice a n' c', .slice d k e] 34 ∧ QC (mk noY wx) (.agg #[.bool s, .slice a n' c', .slice d k e]) D ∧ Ext v7 wx)
  case first =>
    refine wp_region_K 24 (fun w' => w'.cell? (adr g 0) = some (.slice a5 2 c5) ∧ w'.cell? (adr g 1) = some (.slice a6 2 c6) ∧ (w'.cell? ⟨g1, o1, none⟩ = some (.bool s1) ∧ w'.cell? ⟨g1, o1 + 1, none⟩ = some (.slice p1 n1 q1) ∧ w'.cell? ⟨g1, o1 + 2, none⟩ = some (.slice x1 k1 e1)) ∧ (w'.cell? ⟨g2, o2, none⟩ = some (.bool s2) ∧ w'.cell? ⟨g2, o2 + 1, none⟩ = some (.slice p2 n2 q2) ∧ w'.cell? ⟨g2, o2 + 2, none⟩ = some (.slice x2 k2 e2)) ∧ (w'.cell? ⟨g3, o3, none⟩ = some (.bool s3) ∧ w'.cell? ⟨g3, o3 + 1, none⟩ = some (.slice p3 n3 q3) ∧ w'.cell? ⟨g3, o3 + 2, none⟩ = some (.slice x3 k3 e3)) ∧ (w'.cell? ⟨g4, o4, none⟩ = some (.bool s4) ∧ w'.cell? ⟨g4, o4 + 1, none⟩ = some (.slice p4 n4 q4) ∧ w'.cell? ⟨g4, o4 + 2, none⟩ = some (.slice x4 k4 e4))) (by kernel_rfl) (by kernel_rfl) (hS.out _ (ExtX.refl _)) (fun hHeld hOnce => ?_)
    refine wpAnyK_take hOnce (i := 0) (oi := ⟨_, _, _, _, _, _⟩) (v := ?_) rfl (by kernel_rfl) (fun _ _ _ h => h) (by assumption) (by rfl) (fun w hSw => ?_) ?_
    rotate_left
    · (try dsimp only at hSw)
      go_simp
      all_goals with_reducible rfl
    (try simp only [Act.put, List.setIfInBounds_toArray, List.set_cons_zero, List.set_cons_succ])
    refine wpAnyK_take hOnce (i := 1) (oi := ⟨_, _, _, _, _, _⟩) (v := ?_) rfl (by kernel_rfl) (fun _ _ _ h => h) (by assumption) (by rfl) (fun w hSw => ?_) ?_
    rotate_left
    · (try dsimp only at hSw)
      go_simp
      all_goals with_reducible rfl
    (try simp only [Act.put, List.setIfInBounds_toArray, List.set_cons_zero, List.set_cons_succ])
    refine wpAnyK_take hOnce (i := 2) (oi := ⟨_, _, _, _, _, _⟩) (v := ?_) rfl (by kernel_rfl) (fun _ _ _ h => h) (by assumption) (by rfl) (fun w hSw => ?_) ?_
    rotate_left
    · (try dsimp only at hSw)
      go_simp
      all_goals with_reducible rfl
    (try simp only [Act.put, List.setIfInBounds_toArray, List.set_cons_zero, List.set_cons_succ])
    refine wpAnyK_take hOnce (i := 3) (oi := ⟨_, _, _, _, _, _⟩) (v := ?_) rfl (by kernel_rfl) (fun _ _ _ h => h) (by assumption) (by rfl) (fun w hSw => ?_) ?_
    rotate_left
    · (try dsimp only at hSw)
      go_simp
      all_goals with_reducible rfl
    (try simp only [Act.put, List.setIfInBounds_toArray, List.set_cons_zero, List.set_cons_succ])
    refine wpAnyK_take hOnce (i := 4) (oi := ⟨_, _, _, _, _, _⟩) (v := ?_) rfl (by kernel_rfl) (fun _ _ _ h => h) (by assumption) (by rfl) (fun w hSw => ?_) ?_
    rotate_left
    · (try dsimp only at hSw)
      go_simp
      all_goals with_reducible rfl
    (try simp only [Act.put, List.setIfInBounds_toArray, List.set_cons_zero, List.set_cons_succ])
    refine wpAnyK_take hOnce (i := 5) (oi := ⟨_, _, _, _, _, _⟩) (v := ?_) rfl (by kernel_rfl) (fun _ _ _ h => h) (by assumption) (by rfl) (fun w hSw => ?_) ?_
    rotate_left
    · (try dsimp only at hSw)
      go_simp
      all_goals with_reducible rfl
    (try simp only [Act.put, List.setIfInBounds_toArray, List.set_cons_zero, List.set_cons_succ])
    refine wpAnyK_take hOnce (i := 6) (oi := ⟨_, _, _, _, _, _⟩) (v := ?_) rfl (by kernel_rfl) (fun _ _ _ h => h) (by assumption) (by rfl) (fun w hSw => ?_) ?_
    rotate_left
    · (try dsimp only at hSw)
      go_simp
      all_goals with_reducible rfl
    (try simp only [Act.put, List.setIfInBounds_toArray, List.set_cons_zero, List.set_cons_succ])
    refine wpAnyK_take hOnce (i := 7) (oi := ⟨_, _, _, _, _, _⟩) (v := ?_) rfl (by kernel_rfl) (fun _ _ _ h => h) (by assumption) (by rfl) (fun w hSw => ?_) ?_
    rotate_left
    · (try dsimp only at hSw)
      go_simp
      all_goals with_reducible rfl
    (try simp only [Act.put, List.setIfInBounds_toArray, List.set_cons_zero, List.set_cons_succ])
    refine wpAnyK_take hOnce (i := 8) (oi := ⟨_, _, _, _, _, _⟩) (v := ?_) rfl (by kernel_rfl) (fun _ _ _ h => h) (by assumption) (by rfl) (fun w hSw => ?_) ?_
    rotate_left
    · (try dsimp only at hSw)
      go_simp
      all_goals with_reducible rfl
    (try simp only [Act.put, List.setIfInBounds_toArray, List.set_cons_zero, List.set_cons_succ])
    refine wpAnyK_take hOnce (i := 9) (oi := ⟨_, _, _, _, _, _⟩) (v := ?_) rfl (by kernel_rfl) (fun _ _ _ h => h) (by assumption) (by rfl) (fun w hSw => ?_) ?_
    rotate_left
    · (try dsimp only at hSw)
      go_simp
      all_goals with_reducible rfl
    (try simp only [Act.put, List.setIfInBounds_toArray, List.set_cons_zero, List.set_cons_succ])
    refine wpAnyK_take hOnce (i := 11) (oi := ⟨_, _, _, _, _, _⟩) (v := ?_) rfl (by kernel_rfl) (fun _ _ _ h => h) (by assumption) (by rfl) (fun w hSw => ?_) ?_
    rotate_left
    · (try dsimp only at hSw)
      go_simp
      all_goals with_reducible rfl
    (try simp only [Act.put, List.setIfInBounds_toArray, List.set_cons_zero, List.set_cons_succ])
    refine wpAnyK_take hOnce (i := 12) (oi := ⟨_, _, _, _, _, _⟩) (v := ?_) rfl (by kernel_rfl) (fun _ _ _ h => h) (by assumption) (by rfl) (fun w hSw => ?_) ?_
    rotate_left
    · (try dsimp only at hSw)
      go_simp
      all_goals with_reducible rfl
    (try simp only [Act.put, List.setIfInBounds_toArray, List.set_cons_zero, List.set_cons_succ])
    refine wpAnyK_take hOnce (i := 13) (oi := ⟨_, _, _, _, _, _⟩) (v := ?_) rfl (by kernel_rfl) (fun _ _ _ h => h) (by assumption) (by rfl) (fun w hSw => ?_) ?_
    rotate_left
    · (try dsimp only at hSw)
      go_simp
      all_goals with_reducible rfl
    (try simp only [Act.put, List.setIfInBounds_toArray, List.set_cons_zero, List.set_cons_succ])
    refine wpAnyK_take hOnce (i := 14) (oi := ⟨_, _, _, _, _, _⟩) (v := ?_) rfl (by kernel_rfl) (fun _ _ _ h => h) (by assumption) (by rfl) (fun w hSw => ?_) ?_
    rotate_left
    · (try dsimp only at hSw)
      go_simp
      all_goals with_reducible rfl
    (try simp only [Act.put, List.setIfInBounds_toArray, List.set_cons_zero, List.set_cons_succ])
    refine wpAnyK_take hOnce (i := 15) (oi := ⟨_, _, _, _, _, _⟩) (v := ?_) rfl (by kernel_rfl) (fun _ _ _ h => h) (by assumption) (by rfl) (fun w hSw => ?_) ?_
    rotate_left
    · (try dsimp only at hSw)
      go_simp
      all_goals with_reducible rfl
    (try simp only [Act.put, List.setIfInBounds_toArray, List.set_cons_zero, List.set_cons_succ])
    refine wpAnyK_take hOnce (i := 16) (oi := ⟨_, _, _, _, _, _⟩) (v := ?_) rfl (by kernel_rfl) (fun _ _ _ h => h) (by assumption) (by rfl) (fun w hSw => ?_) ?_
    rotate_left
    · (try dsimp only at hSw)
      go_simp
      all_goals with_reducible rfl
    (try simp only [Act.put, List.setIfInBounds_toArray, List.set_cons_zero, List.set_cons_succ])
    refine wpAnyK_take hOnce (i := 17) (oi := ⟨_, _, _, _, _, _⟩) (v := ?_) rfl (by kernel_rfl) (fun _ _ _ h => h) (by assumption) (by rfl) (fun w hSw => ?_) ?_
    rotate_left
    · (try dsimp only at hSw)
      go_simp
      all_goals with_reducible rfl
    (try simp only [Act.put, List.setIfInBounds_toArray, List.set_cons_zero, List.set_cons_succ])
    refine wpAnyK_take hOnce (i := 18) (oi := ⟨_, _, _, _, _, _⟩) (v := ?_) rfl (by kernel_rfl) (fun _ _ _ h => h) (by assumption) (by rfl) (fun w hSw => ?_) ?_
    rotate_left
    · (try dsimp only at hSw)
      go_simp
      all_goals with_reducible rfl
    (try simp only [Act.put, List.setIfInBounds_toArray, List.set_cons_zero, List.set_cons_succ])
    refine wpAnyK_take hOnce (i := 19) (oi := ⟨_, _, _, _, _, _⟩) (v := ?_) rfl (by kernel_rfl) (fun _ _ _ h => h) (by assumption) (by rfl) (fun w hSw => ?_) ?_
    rotate_left
    · (try dsimp only at hSw)
      go_simp
      all_goals with_reducible rfl
    (try simp only [Act.put, List.setIfInBounds_toArray, List.set_cons_zero, List.set_cons_succ])
    refine wpAnyK_take hOnce (i := 20) (oi := ⟨_, _, _, _, _, _⟩) (v := ?_) rfl (by kernel_rfl) (fun _ _ _ h => h) (by assumption) (by rfl) (fun w hSw => ?_) ?_
    rotate_left
    · (try dsimp only at hSw)
      go_simp
      all_goals with_reducible rfl
    (try simp only [Act.put, List.setIfInBounds_toArray, List.set_cons_zero, List.set_cons_succ])
    refine wpAnyK_two (i := 10) (j := 23) (oi := ⟨_, _, _, _, _, _⟩) (oj := ⟨_, _, _, _, _, _⟩) (by kernel_rfl) rfl rfl (fun K hK => ?_) (fun K hK => ?_)
    · skip
      go_simp
      (go_at_call 19; (with_reducible refine (hm1.out v7.drew (ExtX.refl _)).mono ?_); rintro ee w1 ⟨rr0, x0, rfl, g0⟩)
      refine hK.out _ _ (hS.out w1 (rr0)) (fun hHeld => ?_)
      clear hK K
      (try simp only [Act.put, List.setIfInBounds_toArray, List.set_cons_zero, List.set_cons_succ])
      have R0 : Ext v7.drew w1 := rr0
      refine wpAnyK_two (i := 21) (j := 23) (oi := ⟨_, _, _, _, _, _⟩) (oj := ⟨_, _, _, _, _, _⟩) (by kernel_rfl) rfl rfl (fun K hK => ?_) (fun K hK => ?_)
      · skip
        go_simp
        (go_at_call 19; (with_reducible refine (hm2.out w1 R0).mono ?_); rintro ee w2 ⟨rr1, x1, rfl, g1⟩)
        refine hK.out _ _ (hS.out w2 (R0.trans rr1)) (fun hHeld => ?_)
        clear hK K
        (try simp only [Act.put, List.setIfInBounds_toArray, List.set_cons_zero, List.set_cons_succ])
        have R1 : Ext v7.drew w2 := R0.trans rr1
        refine wpAnyK_two (i := 22) (j := 23) (oi := ⟨_, _, _, _, _, _⟩) (oj := ⟨_, _, _, _, _, _⟩) (by kernel_rfl) rfl rfl (fun K hK => ?_) (fun K hK => ?_)
        · skip
          go_simp
          (go_at_call 18; (with_reducible refine (hsb.out noY w2 _ _ (hnoX _) (mkx QC.mono g0 rr1) g1).mono ?_); rintro ee w3 ⟨rr2, x2, rfl, g2⟩)
          refine hK.out _ _ (hS.out w3 (R1.trans rr2)) (fun hHeld => ?_)
          clear hK K
          (try simp only [Act.put, List.setIfInBounds_toArray, List.set_cons_zero, List.set_cons_succ])
          have R2 : Ext v7.drew w3 := R1.trans rr2
          obtain ⟨sd, ad, nd, cd, dd, kd, ed, rfl⟩ := g2.shape
          have EA : Ext w3 (w3.alloc (.cells #[.bool false, .slice none 0 0, .slice none 0 0] 34)) := (ExtX.refl _).alloc _
          have bA : Bx (w3.alloc (.cells #[.bool false, .slice none 0 0, .slice none 0 0] 34)) w3.heap.size #[.bool false, .slice none 0 0, .slice none 0 0] 34 := Bx.new w3 _ _
          have hAs : (w3.alloc (.cells #[.bool false, .slice none 0 0, .slice none 0 0] 34)).heap.size = w3.heap.size + 1 := by simp
          refine wpAnyK_step (i := 23) (o := ⟨_, _, _, _, _, _⟩) (by kernel_rfl) rfl (fun K hK => ?_)
          go_simp
          skip
          refine hK.out _ _ (hS.out _ (R2.trans EA)) (fun hHeld => ?_)
          clear hK K
          (try simp only [Act.put, List.setIfInBounds_toArray, List.set_cons_zero, List.set_cons_succ])
          have y0 := bA.cell 0 rfl
          have y1 := bA.cell 1 rfl
          have y2 := bA.cell 2 rfl
          have z0 := bA.frozen 0
          have z1 := bA.frozen 1
          have z2 := bA.frozen 2
          refine wpAnyK_last (i := 24) (o := ⟨_, _, _, _, _, _⟩) (by kernel_rfl) rfl (by decide) (by kernel_rfl) (fun K hK => ?_)
          go_simp
          refine hK.out _ _ ?_
          clear hK K
          have hE9 : Ext v7 w3 := hE0.trans R2
          clear y0 y1 y2 z0 z1 z2
          go_wp2_with fail
          go_meet
          case rel => exact ⟨w3.heap.size, _, _, _, _, _, _, _, rfl, Bx.new w3 _ _, QC.mono _ _ _ _ (mk_ext ((ExtX.refl w3).alloc _)) g2, hE9.alloc _⟩
        · skip
          have EA : Ext w2 (w2.alloc (.cells #[.bool false, .slice none 0 0, .slice none 0 0] 34)) := (ExtX.refl _).alloc _
          have bA : Bx (w2.alloc (.cells #[.bool false, .slice none 0 0, .slice none 0 0] 34)) w2.heap.size #[.bool false, .slice none 0 0, .slice none 0 0] 34 := Bx.new w2 _ _
          have hAs : (w2.alloc (.cells #[.bool false, .slice none 0 0, .slice none 0 0] 34)).heap.size = w2.heap.size + 1 := by simp
          go_simp
          skip
          refine hK.out _ _ (hS.out _ (R1.trans EA)) (fun hHeld => ?_)
          clear hK K
          (try simp only [Act.put, List.setIfInBounds_toArray, List.set_cons_zero, List.set_cons_succ])
          obtain ⟨wA, hwA⟩ : ∃ wA, w2.alloc (.cells #[.bool false, .slice none 0 0, .slice none 0 0] 34) = wA := ⟨_, rfl⟩
          obtain ⟨gA, hgA⟩ : ∃ gA, w2.heap.size = gA := ⟨_, rfl⟩
          have hvg : v7.drew.heap.size ≤ gA := by rw [← hgA]; exact R1.size
          have tA : Ext v7.drew wA := by rw [← hwA]; exact R1.trans EA
          have hd0A := old_un (w := w2) QC.mono (mkx QC.mono g0 rr1) (EA) (fun j hj => ob_other (by omega) : ∀ j, j < w2.heap.size → ob (some ⟨w2.heap.size, 0, none⟩) j = false)
          have hd1A := old_un (w := w2) QC.mono g1 (EA) (fun j hj => ob_other (by omega) : ∀ j, j < w2.heap.size → ob (some ⟨w2.heap.size, 0, none⟩) j = false)
          rw [hwA] at EA bA hAs hd0A hd1A ⊢
          rw [hgA] at bA hAs hd0A hd1A ⊢
          have glwA : gA < wA.heap.size := by omega
          refine wpAnyK_step (i := 22) (o := ⟨_, _, _, _, _, _⟩) (by kernel_rfl) rfl (fun K hK => ?_)
          go_simp
          (go_at_call 18; (with_reducible refine (hsb.out _ wA _ _ (hZ gA wA glwA) hd0A hd1A).mono ?_); rintro ee v2 ⟨q2, u2, rfl, h2⟩)
          refine hK.out _ _ (hS.out v2 (tA.trans q2)) (fun hHeld => ?_)
          clear hK K
          (try simp only [Act.put, List.setIfInBounds_toArray, List.set_cons_zero, List.set_cons_succ])
          have T2 := tA.trans q2
          have b2 := bA.ext0 q2
          have glv2 : gA < v2.heap.size := Nat.lt_of_lt_of_le glwA q2.size
          obtain ⟨sd, ad, nd, cd, dd, kd, ed, rfl⟩ := h2.shape
          have y0 := b2.cell 0 rfl
          have y1 := b2.cell 1 rfl
          have y2 := b2.cell 2 rfl
          have z0 := b2.frozen 0
          have z1 := b2.frozen 1
          have z2 := b2.frozen 2
          have hst := b2.set3 (.bool sd) (.slice ad nd cd) (.slice dd kd ed)
          refine wpAnyK_last (i := 24) (o := ⟨_, _, _, _, _, _⟩) (by kernel_rfl) rfl (by decide) (by kernel_rfl) (fun K hK => ?_)
          go_simp
          refine hK.out _ _ ?_
          clear hK K
          have hq9 := QC.mono _ _ _ _ (mk_sub (X := noY) fun k _ hk => un_left hk) (QC.mono _ _ _ _ (mk_mono hst.2 fun k hk => un_right hk) h2)
          have hE9 : Ext v7 _ := ExtX.box (hE0.trans T2) hst.2 (by have h9 : v7.drew.heap.size = v7.heap.size := rfl; omega)
          clear y0 y1 y2 z0 z1 z2
          go_wp2_with fail
          go_meet
          case rel => exact ⟨_, _, _, _, _, _, _, _, rfl, hst.1, hq9, hE9⟩
      · skip
        have EA : Ext w1 (w1.alloc (.cells #[.bool false, .slice none 0 0, .slice none 0 0] 34)) := (ExtX.refl _).alloc _
        have bA : Bx (w1.alloc (.cells #[.bool false, .slice none 0 0, .slice none 0 0] 34)) w1.heap.size #[.bool false, .slice none 0 0, .slice none 0 0] 34 := Bx.new w1 _ _
        have hAs : (w1.alloc (.cells #[.bool false, .slice none 0 0, .slice none 0 0] 34)).heap.size = w1.heap.size + 1 := by simp
        go_simp
        skip
        refine hK.out _ _ (hS.out _ (R0.trans EA)) (fun hHeld => ?_)
        clear hK K
        (try simp only [Act.put, List.setIfInBounds_toArray, List.set_cons_zero, List.set_cons_succ])
        obtain ⟨wA, hwA⟩ : ∃ wA, w1.alloc (.cells #[.bool false, .slice none 0 0, .slice none 0 0] 34) = wA := ⟨_, rfl⟩
        obtain ⟨gA, hgA⟩ : ∃ gA, w1.heap.size = gA := ⟨_, rfl⟩
        have hvg : v7.drew.heap.size ≤ gA := by rw [← hgA]; exact R0.size
        have tA : Ext v7.drew wA := by rw [← hwA]; exact R0.trans EA
        have hd0A := old_un (w := w1) QC.mono g0 (EA) (fun j hj => ob_other (by omega) : ∀ j, j < w1.heap.size → ob (some ⟨w1.heap.size, 0, none⟩) j = false)
        rw [hwA] at EA bA hAs hd0A ⊢
        rw [hgA] at bA hAs hd0A ⊢
        have glwA : gA < wA.heap.size := by omega
        refine wpAnyK_step (i := 21) (o := ⟨_, _, _, _, _, _⟩) (by kernel_rfl) rfl (fun K hK => ?_)
        go_simp
        (go_at_call 19; (with_reducible refine (hn2.out gA wA tA hvg glwA).mono ?_); rintro ee v1 ⟨q1, u1, rfl, h1⟩)
        refine hK.out _ _ (hS.out v1 (tA.trans q1)) (fun hHeld => ?_)
        clear hK K
        (try simp only [Act.put, List.setIfInBounds_toArray, List.set_cons_zero, List.set_cons_succ])
        have T1 := tA.trans q1
        have b1 := bA.ext0 q1
        have glv1 : gA < v1.heap.size := Nat.lt_of_lt_of_le glwA q1.size
        refine wpAnyK_step (i := 22) (o := ⟨_, _, _, _, _, _⟩) (by kernel_rfl) rfl (fun K hK => ?_)
        go_simp
        (go_at_call 18; (with_reducible refine (hsb.out _ v1 _ _ (hZ gA v1 glv1) (mkx QC.mono hd0A q1) h1).mono ?_); rintro ee v2 ⟨q2, u2, rfl, h2⟩)
        refine hK.out _ _ (hS.out v2 (T1.trans q2)) (fun hHeld => ?_)
        clear hK K
        (try simp only [Act.put, List.setIfInBounds_toArray, List.set_cons_zero, List.set_cons_succ])
        have T2 := T1.trans q2
        have b2 := b1.ext0 q2
        have glv2 : gA < v2.heap.size := Nat.lt_of_lt_of_le glv1 q2.size
        obtain ⟨sd, ad, nd, cd, dd, kd, ed, rfl⟩ := h2.shape
        have y0 := b2.cell 0 rfl
        have y1 := b2.cell 1 rfl
        have y2 := b2.cell 2 rfl
        have z0 := b2.frozen 0
        have z1 := b2.frozen 1
        have z2 := b2.frozen 2
        have hst := b2.set3 (.bool sd) (.slice ad nd cd) (.slice dd kd ed)
        refine wpAnyK_last (i := 24) (o := ⟨_, _, _, _, _, _⟩) (by kernel_rfl) rfl (by decide) (by kernel_rfl) (fun K hK => ?_)
        go_simp
        refine hK.out _ _ ?_
        clear hK K
        have hq9 := QC.mono _ _ _ _ (mk_sub (X := noY) fun k _ hk => un_left hk) (QC.mono _ _ _ _ (mk_mono hst.2 fun k hk => un_right hk) h2)
        have hE9 : Ext v7 _ := ExtX.box (hE0.trans T2) hst.2 (by have h9 : v7.drew.heap.size = v7.heap.size := rfl; omega)
        clear y0 y1 y2 z0 z1 z2
        go_wp2_with fail
        go_meet
        case rel => exact ⟨_, _, _, _, _, _, _, _, rfl, hst.1, hq9, hE9⟩
    · skip
      have EA : Ext v7.drew (v7.alloc (.cells #[.bool false, .slice none 0 0, .slice none 0 0] 34)).drew := ⟨rfl, rfl, rfl, ((ExtX.refl (Y := noY) v7).alloc _).size, ((ExtX.refl (Y := noY) v7).alloc _).block⟩
      have bA : Bx (v7.alloc (.cells #[.bool false, .slice none 0 0, .slice none 0 0] 34)).drew v7.heap.size #[.bool false, .slice none 0 0, .slice none 0 0] 34 := Bx.new v7 _ _
      have hAs : (v7.alloc (.cells #[.bool false, .slice none 0 0, .slice none 0 0] 34)).drew.heap.size = v7.heap.size + 1 := by show (v7.alloc _).heap.size = _; simp
      go_simp
      skip
      refine hK.out _ _ (hS.out _ (EA)) (fun hHeld => ?_)
      clear hK K
      (try simp only [Act.put, List.setIfInBounds_toArray, List.set_cons_zero, List.set_cons_succ])
      obtain ⟨wA, hwA⟩ : ∃ wA, (v7.alloc (.cells #[.bool false, .slice none 0 0, .slice none 0 0] 34)).drew = wA := ⟨_, rfl⟩
      obtain ⟨gA, hgA⟩ : ∃ gA, v7.heap.size = gA := ⟨_, rfl⟩
      have hvg : v7.drew.heap.size ≤ gA := by rw [← hgA]; exact Nat.le_refl _
      have tA : Ext v7.drew wA := by rw [← hwA]; exact EA
      rw [hwA] at EA bA hAs ⊢
      rw [hgA] at bA hAs ⊢
      have glwA : gA < wA.heap.size := by omega
      refine wpAnyK_step (i := 10) (o := ⟨_, _, _, _, _, _⟩) (by kernel_rfl) rfl (fun K hK => ?_)
      go_simp
      (go_at_call 19; (with_reducible refine (hn1.out gA wA tA hvg glwA).mono ?_); rintro ee v0 ⟨q0, u0, rfl, h0⟩)
      refine hK.out _ _ (hS.out v0 (tA.trans q0)) (fun hHeld => ?_)
      clear hK K
      (try simp only [Act.put, List.setIfInBounds_toArray, List.set_cons_zero, List.set_cons_succ])
      have T0 := tA.trans q0
      have b0 := bA.ext0 q0
      have glv0 : gA < v0.heap.size := Nat.lt_of_lt_of_le glwA q0.size
      refine wpAnyK_step (i := 21) (o := ⟨_, _, _, _, _, _⟩) (by kernel_rfl) rfl (fun K hK => ?_)
      go_simp
      (go_at_call 19; (with_reducible refine (hn2.out gA v0 T0 hvg glv0).mono ?_); rintro ee v1 ⟨q1, u1, rfl, h1⟩)
      refine hK.out _ _ (hS.out v1 (T0.trans q1)) (fun hHeld => ?_)
      clear hK K
      (try simp only [Act.put, List.setIfInBounds_toArray, List.set_cons_zero, List.set_cons_succ])
      have T1 := T0.trans q1
      have b1 := b0.ext0 q1
      have glv1 : gA < v1.heap.size := Nat.lt_of_lt_of_le glv0 q1.size
      refine wpAnyK_step (i := 22) (o := ⟨_, _, _, _, _, _⟩) (by kernel_rfl) rfl (fun K hK => ?_)
      go_simp
      (go_at_call 18; (with_reducible refine (hsb.out _ v1 _ _ (hZ gA v1 glv1) (mkx QC.mono h0 q1) h1).mono ?_); rintro ee v2 ⟨q2, u2, rfl, h2⟩)
      refine hK.out _ _ (hS.out v2 (T1.trans q2)) (fun hHeld => ?_)
      clear hK K
      (try simp only [Act.put, List.setIfInBounds_toArray, List.set_cons_zero, List.set_cons_succ])
      have T2 := T1.trans q2
      have b2 := b1.ext0 q2
      have glv2 : gA < v2.heap.size := Nat.lt_of_lt_of_le glv1 q2.size
      obtain ⟨sd, ad, nd, cd, dd, kd, ed, rfl⟩ := h2.shape
      have y0 := b2.cell 0 rfl
      have y1 := b2.cell 1 rfl
      have y2 := b2.cell 2 rfl
      have z0 := b2.frozen 0
      have z1 := b2.frozen 1
      have z2 := b2.frozen 2
      have hst := b2.set3 (.bool sd) (.slice ad nd cd) (.slice dd kd ed)
      refine wpAnyK_last (i := 24) (o := ⟨_, _, _, _, _, _⟩) (by kernel_rfl) rfl (by decide) (by kernel_rfl) (fun K hK => ?_)
      go_simp
      refine hK.out _ _ ?_
      clear hK K
      have hq9 := QC.mono _ _ _ _ (mk_sub (X := noY) fun k _ hk => un_left hk) (QC.mono _ _ _ _ (mk_mono hst.2 fun k hk => un_right hk) h2)
      have hE9 : Ext v7 _ := ExtX.box (hE0.trans T2) hst.2 (by have h9 : v7.drew.heap.size = v7.heap.size := rfl; omega)
      clear y0 y1 y2 z0 z1 z2
      go_wp2_with fail
      go_meet
      case rel => exact ⟨_, _, _, _, _, _, _, _, rfl, hst.1, hq9, hE9⟩
  case rest =>
    obtain ⟨bb, sd, ad, nd, cd, dd, kd, ed, rfl, hbx, hqd, hEx⟩ := hcut
    clear hS i1 i2 i3 i4 i5 i6 hm1 hm2 hn1 hn2 hsb hZ hnb hE0
    have hF8 := hF7.trans hEx
    have hpc8 := mkx MV.mono hp7 hEx
    have hb8 := mkx RV.mono hb7 hEx
    have hm8 := mkx MV.mono hm7 hEx
    have hy8 := mkx RV.mono hyv hEx
    by_cases hy2 : yl = 2
    · subst hy2
      have k0 := hbx.cell 0 rfl
      have k1 := hbx.cell 1 rfl
      have k2 := hbx.cell 2 rfl
      have hqv := hqd.qv (Nat.le_trans d3 (by decide))
      by_cases hD0 : D = 0
      · have hs0 : Hid (D.num.sign = 0) := hid (by rw [hD0]; rfl)
        clear hD0 hlaw
        go_wp2_with fail
        refine (rqsign noY wc _ D (hnoX _) hqv).mono ?_
        rintro e w9 ⟨hE9, rfl⟩
        rw [hs0.out]
        clear k0 k1 k2 hbx
        go_wp2_with fail
        refine (awake25_any w9).mono ?_
        rintro e w10 ⟨hE10, rfl⟩
        go_wp2_with fail
        go_ret
        exact ⟨hF8.trans (hE9.trans hE10), rfl⟩
      · have hs0 : ((D.num.sign : Int) == 0) = false := beqF (by intro h; exact hD0 (Rat.num_eq_zero.1 (Int.sign_eq_zero_iff_zero.1 h)))
        obtain ⟨L1, L2, L3⟩ := hlaw.out rfl hD0
        clear hD0 hlaw
        go_wp2_with fail
        refine (rqsign noY wc _ D (hnoX _) hqv).mono ?_
        rintro e w9 ⟨hE9, rfl⟩
        clear k0 k1 k2 hbx hqv hqd
        have hF9 := hF8.trans hE9
        have hp9 := mkx MV.mono hpc8 hE9
        have hb9 := mkx RV.mono hb8 hE9
        have hm9 := mkx MV.mono hm8 hE9
        have hy9 := mkx RV.mono hy8 hE9
        have hQB : BM 1029 (p.map (imgL b r0 r1)) := fun r hr => by
          obtain ⟨r', hr', rfl⟩ := List.mem_map.1 hr
          exact img_hq hB1 hB2 hB3 (hpB r' hr') (by decide) hr2 hr3
        have hQg : Hid (∀ j (hj : j < p.length) (h : j < (p.map (imgL b r0 r1)).length), (p.map (imgL b r0 r1))[j] = imgL b r0 r1 p[j]) := hid fun j hj h => by simp
        have hQl : Hid ((p.map (imgL b r0 r1)).length = n) := hid (by rw [List.length_map]; exact hn'.out)
        have hyI := img_hq hB1 hB2 hB3 hyB (by decide) hr2 hr3
        have hyd : y.length = 2 := hyq'.out
        have hIl : (imgL b r0 r1 y).length = 2 := rfl
        have hImg := hid fun Z w' (vv : Value) (v : List Rat) (hX : HX Z w') (h1 : RV (mk Z w') vv v) (h2 : RV (mk Z w') (.slice a1 2 c1) b) (h3 : MV (mk Z w') (.slice g 2 2) [r0, r1]) (h4 : v.length = 2) (h5 : BR 2000 v) => image_any Z w' vv (.slice a1 2 c1) (.slice g 2 2) v b r0 r1 hX h1 h2 h3 h4 hr1 hr2 hr3 h5 (fun q hq => Nat.le_trans (hB2 q hq) (by decide)) (fun q hq => Nat.le_trans (hB3 q hq) (by decide))
        obtain ⟨Q, hQ⟩ : ∃ Q, p.map (imgL b r0 r1) = Q := ⟨_, rfl⟩
        rw [hQ] at hQB hQg hQl L2 L3
        obtain ⟨yI, hyIe⟩ : ∃ yI, imgL b r0 r1 y = yI := ⟨_, rfl⟩
        have hyIe' := hid hyIe
        rw [hyIe] at hyI hIl L2 L3
        have hD1 := hid fun w' (h : Ext w9 w') => hdepth_any noY w' (.slice po n pc) (.slice ya 2 yc) p y 1023 (hnoX w') (mkx MV.mono hp9 h) (mkx RV.mono hy9 h) (by rw [hn'.out]; omega) (hpB.le (by decide)) hyB (by decide) (by decide)
        have hD2 := hid fun w' (uv vv : Value) (h1 : MV (mk noY w') uv Q) (h2 : RV (mk noY w') vv yI) => hdepth_any noY w' uv vv Q yI 2100 (hnoX w') h1 h2 (by rw [hQl.out]; omega) (hQB.le (by decide)) (fun q hq => Nat.le_trans (hyI q hq) (by decide)) (by decide) (by decide)
        rw [L1, show okE true = 0 from rfl] at hD1
        rw [L2, L3, show okE true = 0 from rfl] at hD2
        obtain ⟨V, hV⟩ : ∃ V, depV p y = V := ⟨_, rfl⟩
        rw [hV] at hD1 hD2
        have hps : Sl RV 1 (mk noY w9) po p := by
          obtain ⟨ao', ca', he', _, hs'⟩ := hp9
          simp only [Value.slice.injEq] at he'
          obtain ⟨rfl, _, _⟩ := he'
          exact hs'
        clear L1 L2 L3 hV hQ hyIe hpc8 hb8 hm8 hy8 hp7 hb7 hm7 hyv hF7 hEx hF8 hE9
        go_wp2_with fail
        go_loopw [9, 64] (fun o cx wr => ∃ (j : Nat) (qo : Option Addr) (qc : Nat), cx = .int .i64 j ∧ o = .slice qo j qc ∧ j ≤ n ∧ OL RC 1 noY w9.heap.size 27 wr qo qc (Q.take j) ∧ Ext w9 wr) (fun _ cx _ => n - (intOf cx).toNat)
        case atStart => exact ⟨0, none, 0, rfl, rfl, Nat.zero_le _, OL.nil _ _ _ _ _ _, ExtX.refl _⟩
        case round =>
          obtain ⟨j, qo, qc, rfl, rfl, hj, hO, hE⟩ := hrel
          have hXu : HX (un noY qo) wr := hO.unX (hnoX wr)
          have hbase := hE.size
          by_cases hlt : j < n
          · have hjp : j < p.length := by rw [hn'.out]; exact hlt
            have hjQ : j < Q.length := by rw [hQl.out]; exact hlt
            have htk := hid (take_snoc Q j hjQ)
            have hln := hid (len_take (l := Q) (i := j) (by omega))
            have hsr : Sl RV 1 (mk (un noY qo) wr) po p := hps.old RV.mono hE (fun j hj => hO.ob_lt hj)
            obtain ⟨a7, c7, hX7, hc7, hcl7, hq7⟩ := hsr.row j hjp
            have k00 := hc7.out noY wr (ExtX.refl _) rfl
            have hrl := hpr'.out p[j] (List.getElem_mem _)
            have hgj := hQg.out j hjp hjQ
            have hi := hImg.out (un noY qo) wr (.slice a7 p[j].length c7) p[j] hXu ⟨a7, c7, rfl, hcl7, hq7⟩ (old_un RV.mono hb9 hE (fun j hj => hO.ob_lt hj)) (old_un MV.mono hm9 hE (fun j hj => hO.ob_lt hj)) hrl (fun q hq => Nat.le_trans (hpB p[j] (List.getElem_mem _) q hq) (by decide))
            rw [← hgj] at hi
            rw [hrl] at hi k00
            have hRl : Q[j].length = 2 := by rw [hgj]; rfl
            obtain ⟨R, hR⟩ : ∃ R, Q[j] = R := ⟨_, rfl⟩
            rw [hR] at hi htk hRl
            have hRl' := hid hRl
            have hj' : (0 : Int) ≤ (j : Int) ∧ (j : Int) < (n : Int) := by omega
            clear hR hc7 hgj hRl hq7 hcl7 hrl hX7
            go_wp2_with (with_reducible refine up_ix1 slRats (by omega) (by assumption) ?_)
            refine hi.mono ?_
            rintro e w6 ⟨hE6, u6, rfl, ro, cr, rfl, hcr, hsR⟩
            have hRC : RC (mk (un noY qo) w6) (.slice ro R.length cr) R := ⟨ro, cr, rfl, hcr, hsR⟩
            rw [hRl'.out] at hRC ⊢
            have hO6 := hO.ext0 RC.elem hE6
            have hb6 := hE6.size
            clear k00 hi
            go_wp2_with (at_builtin; refine st_append1n (l := Q.take j) slRats rfl RC.elem (by omega) (hnoX w6) j hln.out rfl rfl hO6 (.slice ro 2 cr) R rfl hRC (by omega) (by omega) ?_; intro oo2 co2 w7 hO7 hE7 hor)
            have hE8 := (hE.trans hE6).own hO6 (Nat.le_refl _) hE7
            rw [htk.out] at hO7
            go_roundw
            case rel => exact ⟨j + 1, oo2, co2, by go_num, by go_num, by omega, hO7, hE8⟩
            case measure => simp [intOf]; omega
          · have hjn : j = n := by omega
            subst hjn
            rw [List.take_of_length_le (by rw [hQl.out]; exact Nat.le_refl _)] at hO
            have hQs := (hO.toRV (hQB.le (by decide))).sl RV.elem
            have hQc := hO.lenCap
            have hQV : MV (mk noY wr) (.slice qo j qc) Q := ⟨qo, qc, by rw [hQl.out], hQc, hQs⟩
            have hD3 := hD1.out wr hE
            rw [hQl.out] at hQc
            clear hO hQs hXu hD1
            go_wp2_with fail
            refine hD3.mono ?_
            rintro e v1 ⟨hG1, rfl⟩
            have hE1 := hE.trans hG1
            have hi := hImg.out noY v1 (.slice ya 2 yc) y (hnoX v1) (mkx RV.mono hy9 hE1) (mkx RV.mono hb9 hE1) (mkx MV.mono hm9 hE1) hyd (fun q hq => Nat.le_trans (hyB q hq) (by decide))
            rw [hyIe'.out] at hi
            clear hD3
            go_wp2_with fail
            refine hi.mono ?_
            rintro e v2 ⟨hG2, u2, rfl, hu2⟩
            have hu2v := hu2.rv (fun q hq => Nat.le_trans (hyI q hq) (by decide))
            have hD4 := hD2.out v2 _ _ (mkx MV.mono hQV (hG1.trans hG2)) hu2v
            obtain ⟨ro, rc, rfl, _, _⟩ := hu2v
            rw [hIl] at hD4 ⊢
            clear hi hu2
            go_wp2_with fail
            refine hD4.mono ?_
            rintro e v3 ⟨hG3, rfl⟩
            have sV : ((V : Int) == (V : Int)) = true := beqT rfl
            clear hD4
            go_wp2_with fail
            refine (awake25_any v3).mono ?_
            rintro e v4 ⟨hG4, rfl⟩
            go_wp2_with fail
            go_ret
            exact ⟨hF9.trans (hE1.trans (hG2.trans (hG3.trans hG4))), rfl⟩
    · have hs2 : ((yl : Int) != 2) = true := bneT (by omega)
      clear hlaw hbx hqd
      go_wp2_with fail
      refine (awake25_any wc).mono ?_
      rintro e w10 ⟨hE10, rfl⟩
      go_wp2_with fail
      go_ret
      exact ⟨hF8.trans hE10, rfl⟩
end Go.Proofs.YthipmbmjodhiiaaGreat
