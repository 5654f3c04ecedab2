/- matrix: Rank, Det. Conditions: few rows and columns, numbers of few digits. matrix: what Apply, Mul, Rank, Det, Inverse do where the sizes do not fit. Conditions: lengths far below any machine's. matrix: Reduce. Conditions: few rows and columns, numbers of at most 2^36 digits. Solve, as lists. Conditions: none. matrix: Null; slices.Contains. Conditions: few rows and columns, numbers of few digits. reference 06: Dot. Conditions: few numbers of at most 2^36 digits. reference 06: Columns, Formed. Conditions: lengths far below any machine's. reference 06: Transpose, Apply, Mul. Conditions: few rows and columns, numbers of few digits. reference 06: Mul. Conditions: few rows and columns, numbers of few digits. The memory of the reference's elimination: rows, pivots, factor, and what each step leaves of them. Conditions: none. reference 06: what its elimination needs of plain lists. Conditions: none. A drawn region whose last operation waits for all others: the loads are taken first under a condition that need not hold behind the last operation. Conditions: none. reference 06: reduce. Conditions: few rows and columns, numbers of few digits. reference 06: Reduce, Rank, Det. Conditions: few rows and columns, numbers of few digits. reference 03: TakeList, with the slice owned; reference 06: beside, Inverse. Conditions: few rows and columns, numbers of few digits. -/
import Derived.Test.YtjbhcniiioepgaaGreatReG
import Derived.OrdersHeld
import Derived.StillTail
import Derived.Deep.RegionHeld
import Derived.WalkKit
import Derived.Deep.DrawnRows
import Derived.Deep.LoopGhost
namespace Go.Proofs.YtjbhcniiioepgaaGreat
open Go.RowKit Go.Rep Go.Lim Go.Lin

theorem rank_ok (X : Nat → Bool) (w : World) (u : Value) (m : List (List Rat)) (hX : HX X w) (hu : MV (mk X w) u m) (hf : formedB m = true) (hT : TameE m (colsL m)) : Calls Tryz.prog 35 #[u] w (fun e w' => Ext w w' ∧ e = .returned (.tuple #[.int .i64 (rankV m (colsL m) : Int), .int .i64 0])) := by
  obtain ⟨hsh, h96, hc96, _, _⟩ := formedB_shp hf
  have hfo := formed_any X w u m hu (by omega)
  rw [hf] at hfo
  have hco := copied_any X w u m m.length (colsL m) hX hu hsh rfl (by omega) (by omega)
  have hrv : Hid ((eN m (colsL m)).2.1.length = rankV m (colsL m)) := hid rfl
  clear hf
  go_enter Tryz.func35, Tryz.ntmps35
  go_wp2_with fail
  refine hfo.mono ?_
  rintro e w1 ⟨rfl, rfl⟩
  go_wp2_with fail
  refine hco.mono ?_
  rintro e w2 ⟨hE2, ao, cap, hs, rfl, hM2⟩
  go_wp2_with fail
  refine (echelon_any X _ w2 ao cap m.length (colsL m) hs m (hX.ext hE2) hM2 hsh rfl (by omega) (by omega) hT).mono ?_
  rintro e w3 ⟨hE3, po, pc, hs', rfl, hmb, hM3, hP3⟩
  have hEf := hM2.ext_from hE2 (Nat.le_refl _) hE3
  rw [hrv.out]
  go_wp2_with fail
  go_ret2
  exact ⟨hEf, rfl⟩

set_option maxRecDepth 100000 in
set_option maxHeartbeats 1600000 in
theorem det_ok (X : Nat → Bool) (w : World) (u : Value) (m : List (List Rat)) (n : Nat) (hX : HX X w) (hu : MV (mk X w) u m) (hf : formedB m = true) (hn : m.length = n) (hc : colsL m = n) (hn6 : n ≤ 6) (hT : TameE m n) : Calls Tryz.prog 37 #[u] w (fun e w' => Ext w w' ∧ ∃ u, e = .returned (.tuple #[u, .int .i64 0]) ∧ QC (mk X w') u (detV m n)) := by
  obtain ⟨hsh, h96, hc96, _, _⟩ := formedB_shp hf
  rw [hn, hc] at hsh
  obtain ⟨W, hW, hEW, b0, hz⟩ := boxes1 w #[.bool false, .slice none 0 0, .slice none 0 0] 31
  have hXW : HX (hidB X w.heap.size 1) W := hX.boxes hz
  have huW := MV.mono _ _ _ _ (le_boxes (nb := 1) hEW) hu
  have hfo := formed_any _ W u m huW (by omega)
  rw [hf] at hfo
  have hcol := columns_any _ W u m huW
  rw [hc] at hcol
  have hco := copied_any _ W u m n n hXW huW hsh hc (by omega) (by omega)
  have hec := fun w' ao cap hs (h : HX (hidB X w.heap.size 1) w') hM => echelon_any (hidB X w.heap.size 1) W.heap.size w' ao cap n n hs m h hM hsh hc (by omega) (by omega) hT
  have hok := eN_ok hsh n
  obtain ⟨B, hB7, hBj⟩ := hT
  have hBn := hBj n (Nat.le_refl _)
  have hdv : Hid (detV m n = if (eN m n).2.2 then - pr n (fun i => ent (eN m n).1 i i) else pr n (fun i => ent (eN m n).1 i i)) := hid rfl
  obtain ⟨⟨E, p, od⟩, hS⟩ : ∃ S, eN m n = S := ⟨_, rfl⟩
  rw [hS] at hec hok hBn hdv
  have hEs : Shp n n E := hok.shp
  have hEs' := hid hEs
  have hpq := hid (fun k (hk : k ≤ n) => show hq (pr k (fun i => ent E i i)) ≤ 68719476736 from by
    have h1 := pr_hq (f := fun i => ent E i i) (fun i => hBn i i) k
    have h2 : k * B ≤ 6 * B := Nat.mul_le_mul_right _ (by omega)
    omega)
  have heq := hid (fun i => show hq (ent E i i) ≤ 68719476736 from by have h9 : hq (ent E i i) ≤ B := hBn i i; omega)
  have hnn := hid hn
  have hW2 := hid hW
  obtain ⟨b, hb⟩ : ∃ b, w.heap.size = b := ⟨_, rfl⟩
  have hbw : w.heap.size ≤ b := by omega
  rw [hb] at b0 hz hXW huW hco hec
  obtain ⟨ua, uca, rfl, huca, hua⟩ := hu
  rw [hn] at hfo hcol hco huW ⊢
  clear hf hc hsh hBj hok hB7 hS hua huca h96 hc96 hBn
  go_enter Tryz.func37, Tryz.ntmps37
  go_wp2_with fail
  refine hfo.mono ?_
  rintro e w1 ⟨rfl, rfl⟩
  go_wp2_with fail
  refine hcol.mono ?_
  rintro e w2 ⟨rfl, rfl⟩
  clear hW
  go_wp2_with fail
  refine hco.mono ?_
  rintro e w3 ⟨hE3, ao, cap, hs, rfl, hM3⟩
  rw [hnn.out]
  have hX3 := hXW.ext hE3
  go_wp2_with fail
  refine (hec w3 ao cap hs hX3 hM3).mono ?_
  rintro e w4 ⟨hE4, po, pc, hs', rfl, hmb, hM4, hP4⟩
  have hE04 := hM3.ext_from hE3 (Nat.le_refl _) hE4
  have hX4 := hXW.ext hE04
  have hmc4 := MC.mono _ _ _ _ (mk_sub (X := hidB X b 1) fun k _ hk => un_left hk) hM4.mc
  dsimp only at hmc4
  rw [hEs.1] at hmc4
  obtain ⟨a4, c4, heq4, hcl4, hs4⟩ := hmc4
  simp only [Value.slice.injEq] at heq4
  obtain ⟨rfl, hx9, rfl⟩ := heq4
  clear hx9
  have hhO : Hd ao n := by have := hs4.hd; rw [hEs.1] at this; exact this
  have b04 := b0.ext0 hE04
  clear hfo hcol hco hec hM3 hM4 hP4 hmb
  dsimp only
  go_wp2_with fail
  refine (qfrom (hidB X b 1) w4 1 hX4 (by omega) (by omega)).mono ?_
  rintro e w5 ⟨hE5, u5, rfl, hu5⟩
  obtain ⟨s5, a5, n5, c5, d5, k5, e5, rfl⟩ := hu5.shape
  have bx := Bx.new w5 #[.bool false, .slice none 0 0, .slice none 0 0] 31
  obtain ⟨bo, hbo⟩ : ∃ bo, w5.heap.size = bo := ⟨_, rfl⟩
  rw [hbo] at bx
  have h1r : ((1 : Int) : Rat) = 1 := by decide +kernel
  rw [h1r] at hu5
  clear h1r
  have hX5 := hX4.ext hE5
  have hbnew : ∀ j, j < w5.heap.size → ob (some ⟨bo, 0, none⟩) j = false := fun j hj => ob_other (by omega)
  go_wp2_with ((with_reducible show wpList _ _ _ (⟨_, .store _ _ _, _, _, _, _⟩ :: _) _ _); refine st_storeBox stRat rfl rfl bx rfl rfl (one3 _ _ _ _ _ _ _) ?_; intro w6 r1 r2)
  have hE6 : Ext w5 w6 := ExtX.box ((ExtX.refl w5).alloc _) r2 (by omega)
  have hu6 := old_un (oo := some ⟨bo, 0, none⟩) QC.mono hu5 hE6 hbnew
  have hs6 := (hs4.mono RC.mono (mk_ext hE5)).old (oo := some ⟨bo, 0, none⟩) RC.mono hE6 hbnew
  have b06 := (b04.ext0 hE5).ext0 hE6
  have hsz6 := r1.lt
  have hX6 : HX (un (hidB X b 1) (some ⟨bo, 0, none⟩)) w6 := fun k hk => by
    by_cases hx : hidB X b 1 k = true
    · exact hX5.ext hE6 k hx
    · have : bo = k := by simpa [un, hx, ob] using hk
      omega
  have hE06 := hE04.trans (hE5.trans hE6)
  have hbob : b < bo := by have := b04.lt; have := hE5.size; omega
  have hWbo : w2.heap.size ≤ bo := by have := hE04.size; have := hE5.size; omega
  clear bx
  go_loopw [31] (fun k wr => ∃ (i : Nat) (s : Bool) (a : Option Addr) (n' c' : Nat) (d : Option Addr) (kk e : Nat), k = .int .i64 i ∧ i ≤ n ∧ Bx wr b #[.bool false, .slice none 0 0, .slice none 0 0] 31 ∧ Bx wr bo #[.bool s, .slice a n' c', .slice d kk e] 31 ∧ QC (mk (un (hidB X b 1) (some ⟨bo, 0, none⟩)) wr) (.agg #[.bool s, .slice a n' c', .slice d kk e]) (pr i fun i => ent E i i) ∧ Sl RC 1 (mk (un (hidB X b 1) (some ⟨bo, 0, none⟩)) wr) ao E ∧ HX (un (hidB X b 1) (some ⟨bo, 0, none⟩)) wr ∧ Ext w2 wr) (fun k _ => n - (intOf k).toNat)
  case atStart => exact ⟨0, _, _, _, _, _, _, _, rfl, Nat.zero_le _, b06, r1, hu6, hs6, hX6, hE06⟩
  case round =>
    obtain ⟨i, s, a, n', c', d, kk, e, rfl, hi, b0, b1, hq, hsr, hXr, hEr⟩ := hrel
    by_cases hlt : i < n
    · have hiE : i < E.length := by rw [hEs'.out.1]; exact hlt
      have hrl : Hid (E[i].length = n) := hid (hEs'.out.2 _ (List.getElem_mem _))
      have hie : Hid (∀ h : i < E[i].length, E[i][i] = ent E i i) := hid fun h => by
        unfold ent
        rw [show E.getD i [] = E[i] by simp [List.getD_eq_getElem?_getD, hiE], List.getD_eq_getElem?_getD, List.getElem?_eq_getElem h]; rfl
      obtain ⟨a1, c1, hX1, hc1, hcl1, hq1⟩ := hsr.row i hiE
      have k40 := hc1.out noY wr (ExtX.refl _) rfl
      have hbo1 := hid (hpq.out i hi)
      have hbe := hid (heq.out i)
      have hst : Hid (pr i (fun i => ent E i i) * ent E i i = pr (i + 1) fun i => ent E i i) := hid rfl
      obtain ⟨row, hrow⟩ : ∃ row, E[i] = row := ⟨_, rfl⟩
      rw [hrow] at k40 hq1 hrl hie
      rw [hrl.out] at k40
      have hir : i < row.length := by rw [hrl.out]; exact hlt
      have hda : Hd a1 n := by have := hq1.hd; rw [hrl.out] at this; exact this
      obtain ⟨g2, o2, s2, p2, n2, q2, d2, k2, e2, hg2, hX2, hc2, hq2⟩ := hq1.rat QC.shaped i hir
      rw [hie.out hir] at hq2
      obtain ⟨y, hy⟩ : ∃ y, ent E i i = y := ⟨_, rfl⟩
      obtain ⟨D, hD⟩ : ∃ D, pr i (fun i => ent E i i) = D := ⟨_, rfl⟩
      obtain ⟨D2, hD2⟩ : ∃ D2, pr (i + 1) (fun i => ent E i i) = D2 := ⟨_, rfl⟩
      rw [hy] at hq2 hbe hst
      rw [hD] at hq hbo1 hst
      rw [hD2] at hst
      have hD2' := hid hD2
      have i2 : ∀ W, (Instr.indexAt 33 (.slice a1 n c1) (.int .i64 (i : Int))).run Tryz.prog W = .ok (.pointer (some ⟨g2, o2, none⟩)) W := by rw [← hg2]; exact run_indexAt_adr slRat a1 n c1 .i64 i hda (by omega)
      have hEd : Ext wr wr.drew := (ExtX.refl wr).drew
      have b05 := b0.ext0 hEd
      have b15 := b1.ext0 hEd
      have k00 := b15.cell 0 rfl
      have k01 := b15.cell 1 rfl
      have k02 := b15.cell 2 rfl
      obtain ⟨k20, k21, k22⟩ := hc2.out noY wr.drew hEd rfl
      have hXd : HX (un (hidB X b 1) (some ⟨bo, 0, none⟩)) wr.drew := hXr
      have hy5 : QV (mk (un (hidB X b 1) (some ⟨bo, 0, none⟩)) wr.drew) (.agg #[.bool s2, .slice p2 n2 q2, .slice d2 k2 e2]) y := (mkx QC.mono hq2 hEd).qv hbe.out
      have hq5 : QV (mk (un (hidB X b 1) (some ⟨bo, 0, none⟩)) wr.drew) (.agg #[.bool s, .slice a n' c', .slice d kk e]) D := (mkx QC.mono hq hEd).qv hbo1.out
      clear hrow hy hD hD2 hg2 hc1 hc2
      go_wp2_with (with_reducible refine up_ix1 slRats (by omega) (by assumption) ?_)
      go_region_with ((go_at_call 98; (with_reducible refine (qmul (un (hidB X b 1) (some ⟨bo, 0, none⟩)) wr.drew _ _ _ _ hXd hq5 hy5).mono ?_); rintro ee w7 ⟨t1, u7, rfl, hu7⟩; obtain ⟨s7, a7, n7, c7, d7, k7, e7, rfl⟩ := hu7.shape; rw [hst.out] at hu7; have b17 := b15.ext0 t1; have g0 := b17.cell 0 rfl; have g1 := b17.cell 1 rfl; have g2' := b17.cell 2 rfl; have f0 := b17.frozen 0; have f1 := b17.frozen 1; have f2 := b17.frozen 2))
      all_goals
        obtain ⟨z1, z2⟩ := b17.set3 (.bool s7) (.slice a7 n7 c7) (.slice d7 k7 e7)
        have h8 := QC.mono _ _ _ _ (mk_mono (X := un (hidB X b 1) (some ⟨bo, 0, none⟩)) z2 fun k hk => un_right hk) hu7
        have hs8 := (hsr.mono RC.mono (mk_ext (hEd.trans t1))).mono RC.mono (mk_mono z2 fun k hk => un_right hk)
        have b08 := (b05.ext0 t1).ext z2 (ob_other (by omega))
        have hE8 : Ext w2 _ := ExtX.box (hEr.trans (hEd.trans t1)) z2 hWbo
        have hX8 := (hXd.ext t1).ext z2
        rw [← hD2'.out] at h8
        clear k00 k01 k02 k20 k21 k22 k40 g0 g1 g2' f0 f1 f2 i2
        go_wp2_with fail
        go_roundw
        case rel => exact ⟨i + 1, _, _, _, _, _, _, _, by go_num, by omega, b08, z1, h8, hs8, hX8, hE8⟩
        case measure => simp [intOf]; omega
    · have hin : i = n := by omega
      subst hin
      have k00 := b1.cell 0 rfl
      have k01 := b1.cell 1 rfl
      have k02 := b1.cell 2 rfl
      have hEw : Ext w wr := hEW.trans hEr
      have hbo1 := hpq.out i (Nat.le_refl _)
      cases od
      · have hdv2 : Hid (detV m i = pr i (fun i => ent E i i)) := hid hdv.out
        go_wp2_with ((with_reducible show wpList _ _ _ (⟨_, .store _ _ _, _, _, _, _⟩ :: _) _ _); refine st_storeBox stRat rfl rfl b0 rfl rfl (one3 _ _ _ _ _ _ _) ?_; intro w7 r1 r2)
        have h7 := QC.mono _ _ _ _ le_unbox (QC.mono _ _ _ _ (le_store (lo := b) (nb := 1) r2 (by omega) (by omega)) (QC.mono _ _ _ _ (mk_sub fun k _ hk => un_left hk) hq))
        rw [← hdv2.out] at h7
        exact bodyPost_ret (results_box2 rfl rfl stRat r1 rfl) rfl ⟨ExtX.box hEw r2 (by omega), _, rfl, h7⟩
      · have hdv2 : Hid (detV m i = - pr i (fun i => ent E i i)) := hid hdv.out
        go_wp2_with fail
        refine (qneg (un (hidB X b 1) (some ⟨bo, 0, none⟩)) wr _ _ hXr (hq.qv hbo1)).mono ?_
        rintro e w8 ⟨hE8, u8, rfl, hu8⟩
        obtain ⟨s8, a8, n8, c8, d8, k8, e8, rfl⟩ := hu8.shape
        have b18 := b1.ext0 hE8
        have b08 := b0.ext0 hE8
        clear k00 k01 k02
        go_wp2_with ((with_reducible show wpList _ _ _ (⟨_, .store _ _ _, _, _, _, _⟩ :: _) _ _); first | (refine st_storeBox stRat rfl rfl b18 rfl rfl (one3 _ _ _ _ _ _ _) ?_; intro w9 y1 y2; have b09 := b08.ext y2 (ob_other (by omega)); have j0 := y1.cell 0 rfl; have j1 := y1.cell 1 rfl; have j2 := y1.cell 2 rfl) | (refine st_storeBox stRat rfl rfl b09 rfl rfl (one3 _ _ _ _ _ _ _) ?_; intro w7 r1 r2))
        have h9 := QC.mono _ _ _ _ (mk_mono (X := un (hidB X b 1) (some ⟨bo, 0, none⟩)) y2 fun k hk => un_right hk) hu8
        have h7 := QC.mono _ _ _ _ le_unbox (QC.mono _ _ _ _ (le_store (lo := b) (nb := 1) r2 (by omega) (by omega)) (QC.mono _ _ _ _ (mk_sub fun k _ hk => un_left hk) h9))
        rw [← hdv2.out] at h7
        exact bodyPost_ret (results_box2 rfl rfl stRat r1 rfl) rfl ⟨ExtX.box (ExtX.box (hEw.trans hE8) y2 (by have := hEW.size; omega)) r2 (by omega), _, rfl, h7⟩
end Go.Proofs.YtjbhcniiioepgaaGreat


namespace Go.Proofs.YtjbhcniiioepgaaGreat
open Go.RowKit Go.Rep Go.Lim Go.Lin

theorem rank_no (X : Nat → Bool) (w : World) (u : Value) (m : List (List Rat)) (hu : MV (mk X w) u m) (hl : m.length ≤ 1099511627776) (hf : formedB m = false) : Calls Tryz.prog 35 #[u] w (fun e w' => w' = w ∧ e = .returned (.tuple #[.int .i64 0, .int .i64 6])) := by
  have hfo := formed_any X w u m hu hl
  rw [hf] at hfo
  clear hf
  go_enter Tryz.func35, Tryz.ntmps35
  go_wp2_with fail
  refine hfo.mono ?_
  rintro e w1 ⟨rfl, rfl⟩
  go_wp2_with fail
  go_ret2
  exact ⟨rfl, rfl⟩
theorem det_no (X : Nat → Bool) (w : World) (u : Value) (m : List (List Rat)) (hu : MV (mk X w) u m) (hl : m.length ≤ 1099511627776) (hf : formedB m = true → colsL m ≠ m.length) : Calls Tryz.prog 37 #[u] w (fun e w' => Ext w w' ∧ ∃ u, e = .returned (.tuple #[u, .int .i64 6]) ∧ QC (mk X w') u 0) := by
  obtain ⟨W, hW, hEW, b0, hz⟩ := boxes1 w #[.bool false, .slice none 0 0, .slice none 0 0] 31
  have huW := mkx MV.mono hu hEW
  have hfo := formed_any X W u m huW hl
  cases hfv : formedB m
  · rw [hfv] at hfo
    clear hfv hf
    go_enter Tryz.func37, Tryz.ntmps37
    go_wp2_with fail
    refine hfo.mono ?_
    rintro e w1 ⟨rfl, rfl⟩
    go_wp2_with ((with_reducible show wpList _ _ _ (⟨_, .store _ _ _, _, _, _, _⟩ :: _) _ _); refine st_storeBox stRat rfl rfl b0 rfl rfl (one3 _ _ _ _ _ _ _) ?_; intro w3 r1 r2)
    exact bodyPost_ret (results_box2 rfl rfl stRat r1 rfl) rfl ⟨ExtX.box hEW r2 (by omega), _, rfl, QC.zero _⟩
  · rw [hfv] at hfo
    have hcol := columns_any X W u m huW
    have hne0 := hf hfv
    obtain ⟨ua, uca, rfl, huca, hua⟩ := hu
    obtain ⟨c, hc⟩ : ∃ c, colsL m = c := ⟨_, rfl⟩
    obtain ⟨n, hn⟩ : ∃ n, m.length = n := ⟨_, rfl⟩
    rw [hc] at hcol hne0
    rw [hn] at hfo hcol hne0 ⊢
    have hne : ((c : Int) != (n : Int)) = true := bneT (by omega)
    clear hfv hf hc hn hne0 huW hua
    go_enter Tryz.func37, Tryz.ntmps37
    go_wp2_with fail
    refine hfo.mono ?_
    rintro e w1 ⟨rfl, rfl⟩
    go_wp2_with fail
    refine hcol.mono ?_
    rintro e w2 ⟨rfl, rfl⟩
    go_wp2_with ((with_reducible show wpList _ _ _ (⟨_, .store _ _ _, _, _, _, _⟩ :: _) _ _); refine st_storeBox stRat rfl rfl b0 rfl rfl (one3 _ _ _ _ _ _ _) ?_; intro w3 r1 r2)
    exact bodyPost_ret (results_box2 rfl rfl stRat r1 rfl) rfl ⟨ExtX.box hEW r2 (by omega), _, rfl, QC.zero _⟩
theorem inverse_no2 (X : Nat → Bool) (w : World) (u : Value) (m : List (List Rat)) (hu : MV (mk X w) u m) (hf : formedB m = true) (hc : colsL m ≠ m.length) : Calls Tryz.prog 39 #[u] w (fun e w' => w' = w ∧ e = .returned (.tuple #[.slice none 0 0, .int .i64 6])) := by
  have h96 := (formedB_shp hf).2.1
  have hfo := formed_any X w u m hu (by omega)
  rw [hf] at hfo
  have hcol := columns_any X w u m hu
  obtain ⟨ua, uca, rfl, huca, hua⟩ := hu
  obtain ⟨c, hce⟩ : ∃ c, colsL m = c := ⟨_, rfl⟩
  obtain ⟨n, hn⟩ : ∃ n, m.length = n := ⟨_, rfl⟩
  rw [hce] at hcol hc
  rw [hn] at hfo hcol hc ⊢
  have hne : ((c : Int) != (n : Int)) = true := bneT (by omega)
  clear hf hce hn hc hua
  go_enter Tryz.func39, Tryz.ntmps39
  go_wp2_with fail
  refine hfo.mono ?_
  rintro e w1 ⟨rfl, rfl⟩
  go_wp2_with fail
  refine hcol.mono ?_
  rintro e w2 ⟨rfl, rfl⟩
  go_wp2_with fail
  go_ret2
  exact ⟨rfl, rfl⟩
end Go.Proofs.YtjbhcniiioepgaaGreat


namespace Go.Proofs.YtjbhcniiioepgaaGreat
open Go.RowKit Go.Rep Go.Lim Go.Lin

/-- A matrix, some column numbers, and no error. -/
def M3Out (X : Nat → Bool) (w : World) (m : List (List Rat)) (p : List Nat) (e : Ending) (w' : World) : Prop := Ext w w' ∧ ∃ u v, e = .returned (.tuple #[u, v, .int .i64 0]) ∧ MC (mk X w') u m ∧ SlV (NatIn .i64) 1 (mk X w') v p

theorem preduce_no (X : Nat → Bool) (w : World) (u : Value) (m : List (List Rat)) (hu : MV (mk X w) u m) (hl : m.length ≤ 1099511627776) (hf : formedB m = false) : Calls Tryz.prog 21 #[u] w (fun e w' => w' = w ∧ e = .returned (.tuple #[.slice none 0 0, .slice none 0 0, .int .i64 6])) := by
  have hfo := formed_any X w u m hu hl
  rw [hf] at hfo
  clear hf
  go_enter Tryz.func21, Tryz.ntmps21
  go_wp2_with fail
  refine hfo.mono ?_
  rintro e w1 ⟨rfl, rfl⟩
  go_wp2_with fail
  go_ret3
  exact ⟨rfl, rfl⟩

theorem preduce_ok (X : Nat → Bool) (w : World) (u : Value) (m : List (List Rat)) (hX : HX X w) (hu : MV (mk X w) u m) (hf : formedB m = true) (hT : Tame m (colsL m)) : Calls Tryz.prog 21 #[u] w (M3Out X w (redP m (colsL m)).1 (redP m (colsL m)).2) := by
  obtain ⟨hsh, h96, hc96, _, _⟩ := formedB_shp hf
  have hfo := formed_any X w u m hu (by omega)
  rw [hf] at hfo
  have hco := copied_any X w u m m.length (colsL m) hX hu hsh rfl (by omega) (by omega)
  have hrs := hid (redP_ok hsh).1
  clear hf
  go_enter Tryz.func21, Tryz.ntmps21
  go_wp2_with fail
  refine hfo.mono ?_
  rintro e w1 ⟨rfl, rfl⟩
  go_wp2_with fail
  refine hco.mono ?_
  rintro e w2 ⟨hE2, ao, cap, hs, rfl, hM2⟩
  go_wp2_with fail
  refine (mreduce_any X _ w2 ao cap m.length (colsL m) hs m (hX.ext hE2) hM2 hsh rfl (by omega) (by omega) hT).mono ?_
  rintro e w3 ⟨hE3, po, pc, hs', rfl, hmb, hM3, hP3⟩
  have hEf := hM2.ext_from hE2 (Nat.le_refl _) hE3
  have hmc := MC.mono _ _ _ _ (mk_sub (X := X) fun k _ hk => un_left hk) hM3.mc
  have hps : SlV (NatIn .i64) 1 (mk X w3) (.slice po (redP m (colsL m)).2.length pc) (redP m (colsL m)).2 := ⟨po, pc, rfl, hP3.lenCap, (hP3.sl (NatIn.elem _)).mono (NatIn.mono _) (mk_sub fun k _ hk => mz_iff.2 (.inl hk))⟩
  rw [hrs.out.1] at hmc
  go_wp2_with fail
  go_ret3
  exact ⟨hEf, _, _, rfl, hmc, hps⟩
end Go.Proofs.YtjbhcniiioepgaaGreat


namespace Go.Lin
open Go.Lim
end Go.Lin


namespace Go.Lin
open Go.Lim
end Go.Lin
namespace Go.Proofs.YtjbhcniiioepgaaGreat
open Go.RowKit Go.Rep Go.Lim Go.Lin

end Go.Proofs.YtjbhcniiioepgaaGreat


namespace Go.Proofs.YtjbhcniiioepgaaGreat
open Go.RowKit Go.Rep Go.Lim Go.Lin

end Go.Proofs.YtjbhcniiioepgaaGreat


namespace Go.Lin
theorem ent_at {m : Mat} {i j : Nat} (hi : i < m.length) (hj : j < m[i].length) : m[i][j] = ent m i j := by
  unfold ent
  rw [show m.getD i [] = m[i] by simp [List.getD_eq_getElem?_getD, hi], List.getD_eq_getElem?_getD, List.getElem?_eq_getElem hj]; rfl
theorem colsL_shp {m : Mat} {n c : Nat} (h : Shp n c m) (hc : n = 0 → c = 0) : colsL m = c := by
  by_cases hn : 0 < n
  · have h0 : 0 < m.length := by rw [h.1]; exact hn
    rw [colsL_pos h0]; exact h.2 _ (List.getElem_mem _)
  · have : m = [] := List.eq_nil_of_length_eq_zero (by rw [h.1]; omega)
    subst this; rw [hc (by omega)]; rfl
end Go.Lin
namespace Go.Proofs.YtjbhcniiioepgaaGreat
open Go.RowKit Go.Rep Go.Lim Go.Lin

theorem rcolumns {R : Mem → Value → Rat → Prop} (X : Nat → Bool) (w : World) (u : Value) (m : List (List Rat)) (hu : SlV (SlV R 3) 1 (mk X w) u m) : Calls Tryz.prog 100 #[u] w (fun e w' => w' = w ∧ e = .returned (.int .i64 (colsL m : Int))) := by
  obtain ⟨ao, ca, rfl, hca, hsa⟩ := hu
  have hha := hsa.hd
  by_cases h : 0 < m.length
  · obtain ⟨a1, c1, hX1, hc1, hcl1, hq1⟩ := hsa.row 0 h
    have k00 := hc1.out noY w (ExtX.refl _) rfl
    have hc := hid (colsL_pos h)
    have hI : ((m.length : Int) == 0) = false := beqF (by omega)
    go_enter Tryz.func100, Tryz.ntmps100
    go_wp2_with (with_reducible refine up_ix1 slRats (by omega) (by assumption) ?_)
    go_ret
    exact ⟨rfl, ret_int (by rw [hc.out])⟩
  · have hc : Hid (colsL m = 0) := hid (by
      have : m = [] := List.eq_nil_of_length_eq_zero (by omega)
      subst this; rfl)
    have hI : ((m.length : Int) == 0) = true := beqT (by omega)
    go_enter Tryz.func100, Tryz.ntmps100
    go_wp2_with (with_reducible refine up_ix1 slRats (by omega) (by assumption) ?_)
    go_ret
    exact ⟨rfl, ret_int (by rw [hc.out]; rfl)⟩

set_option maxRecDepth 100000 in
theorem rformed {R : Mem → Value → Rat → Prop} (hR : Mono R) (X : Nat → Bool) (w : World) (u : Value) (m : List (List Rat)) (hu : SlV (SlV R 3) 1 (mk X w) u m) (hl : m.length ≤ 1099511627776) : Calls Tryz.prog 93 #[u] w (BOut w (formedB m)) := by
  obtain ⟨ao, ca, rfl, hca, hsa⟩ := hu
  have hha := hsa.hd
  by_cases h96 : 96 < m.length
  · have hv : Hid (false = formedB m) := hid (by
      symm
      cases hf : formedB m
      · rfl
      · have := (formedB_true.1 hf).1; omega)
    have hI : (96 : Int) < (m.length : Int) := by omega
    go_enter Tryz.func93, Tryz.ntmps93
    go_wp2_with fail
    go_ret
    exact ⟨ExtX.refl _, ret_bool hv.out⟩
  · have hI : ¬ (96 : Int) < (m.length : Int) := by omega
    obtain ⟨n, hn⟩ : ∃ n, m.length = n := ⟨_, rfl⟩
    have hn' := hid hn
    have hn6 : n ≤ 96 := by omega
    rw [hn] at hha hI ⊢
    clear hn hl h96 hca
    go_enter Tryz.func93, Tryz.ntmps93
    go_wp2_with fail
    go_loopw [3] (fun c wr => ∃ (i : Nat), c = .int .i64 i ∧ i ≤ n ∧ Hid (∀ q, q < i → ∀ hq : q < m.length, 1 ≤ m[q].length ∧ m[q].length ≤ 96 ∧ m[q].length = colsL m) ∧ Ext w wr) (fun c _ => n - (intOf c).toNat)
    case atStart => exact ⟨0, rfl, Nat.zero_le _, hid (fun q hq => by omega), ExtX.refl _⟩
    case round =>
      obtain ⟨i, rfl, hi, hok, hE⟩ := hrel
      by_cases hlt : i < n
      · have hil : i < m.length := by rw [hn'.out]; exact hlt
        have h0 : 0 < m.length := by omega
        have hsr := hsa.mono (SlV.mono hR 3) (mk_ext hE)
        obtain ⟨a1, c1, hX1, hc1, hcl1, hq1⟩ := hsr.row i hil
        obtain ⟨a2, c2, hX2, hc2, hcl2, hq2⟩ := hsr.row 0 h0
        have k00 := hc1.out noY wr (ExtX.refl _) rfl
        have k10 := hc2.out noY wr (ExtX.refl _) rfl
        have i1 : ∀ W, (Instr.indexAt 23 (.slice ao n ca) (.int .i64 (i : Int))).run Tryz.prog W = .ok (.pointer (some (adr ao i))) W := run_ix1 slRats ao n ca .i64 i hha (by omega) rfl
        have i0 : ∀ W, (Instr.indexAt 23 (.slice ao n ca) (.int .i64 0)).run Tryz.prog W = .ok (.pointer (some (adr ao 0))) W := run_ix1 slRats ao n ca .i64 0 hha (by omega) rfl
        have hcol := colsL_pos h0
        have hno := hid (formedB_false i hil)
        rw [← hcol] at k10
        obtain ⟨x, hx⟩ : ∃ x, m[i].length = x := ⟨_, rfl⟩
        obtain ⟨y, hy⟩ : ∃ y, colsL m = y := ⟨_, rfl⟩
        rw [hx] at k00 hno
        rw [hy] at k10 hno
        have hst : Hid (1 ≤ x ∧ x ≤ 96 ∧ x = y → ∀ hq : i < m.length, 1 ≤ m[i].length ∧ m[i].length ≤ 96 ∧ m[i].length = colsL m) := hid fun h hq => by rw [hx, hy]; exact h
        clear hx hy hcol hc1 hc2 hq1 hq2 hcl1 hcl2 h0 hil
        by_cases hx0 : x = 0
        · have d0 : decide ((x : Int) < 1) = true := decide_eq_true (by omega)
          have hv := hid (hno.out (by omega))
          clear hx0 hno hst
          go_wp2_with fail
          go_region
          all_goals
            clear k00 k10 i1 i0
            go_wp2_with fail
            go_ret
            exact ⟨hE.trans (ExtX.refl wr).drew, ret_bool hv.out⟩
        · have d0 : decide ((x : Int) < 1) = false := decide_eq_false (by omega)
          by_cases hx1 : 96 < x
          · have d1 : decide ((96 : Int) < (x : Int)) = true := decide_eq_true (by omega)
            have hv := hid (hno.out (by omega))
            clear hx0 hno hst
            go_wp2_with fail
            go_region
            all_goals
              clear k00 k10 i1 i0
              go_wp2_with fail
              go_ret
              exact ⟨hE.trans (ExtX.refl wr).drew, ret_bool hv.out⟩
          · have d1 : decide ((96 : Int) < (x : Int)) = false := decide_eq_false (by omega)
            by_cases hxy : x = y
            · have d2 : ((x : Int) != (y : Int)) = false := bneF (by omega)
              have hst2 := hid (hst.out ⟨by omega, by omega, hxy⟩)
              clear hx0 hxy hno hst hx1
              go_wp2_with fail
              go_region
              all_goals
                clear k00 k10 i1 i0
                go_wp2_with fail
                go_roundw
                case rel => exact ⟨i + 1, by go_num, by omega, hid (upto_succ hok.out hst2.out), hE.trans (ExtX.refl wr).drew⟩
                case measure => simp [intOf]; omega
            · have d2 : ((x : Int) != (y : Int)) = true := bneT (by omega)
              have hv := hid (hno.out (by omega))
              clear hx0 hxy hno hst hx1
              go_wp2_with fail
              go_region
              all_goals
                clear k00 k10 i1 i0
                go_wp2_with fail
                go_ret
                exact ⟨hE.trans (ExtX.refl wr).drew, ret_bool hv.out⟩
      · have hv : Hid (true = formedB m) := hid (by
          symm
          exact formedB_true.2 ⟨by rw [hn'.out]; omega, fun q hq => hok.out q (by rw [hn'.out] at hq; omega) hq⟩)
        go_wp2_with fail
        go_ret
        exact ⟨hE, ret_bool hv.out⟩
end Go.Proofs.YtjbhcniiioepgaaGreat


namespace Go.Lin
end Go.Lin
namespace Go.Proofs.YtjbhcniiioepgaaGreat
open Go.RowKit Go.Rep Go.Lim Go.Lin

end Go.Proofs.YtjbhcniiioepgaaGreat


namespace Go.Lin
end Go.Lin
namespace Go.Proofs.YtjbhcniiioepgaaGreat
open Go.RowKit Go.Rep Go.Lim Go.Lin

end Go.Proofs.YtjbhcniiioepgaaGreat


namespace Go.Rep
open Go.RowKit Go.Lim
/-- What is hidden beside the pivots: X and the factor's block. -/
abbrev hidF (X : Nat → Bool) (fb : Nat) : Nat → Bool := un X (some ⟨fb, 0, none⟩)
/-- All that is hidden. -/
abbrev hidZ (X : Nat → Bool) (fb : Nat) (po oo : Option Addr) : Nat → Bool := un (un (hidF X fb) po) oo
structure RS (X : Nat → Bool) (w0 : World) (b fb base : Nat) (T1 T2 T3 : TypeId) (w : World) (oo : Option Addr) (co : Nat) (po : Option Addr) (pc : Nat) (M : List (List Rat)) (p : List Nat) (f : Rat) : Prop where
  rows : OL RC 1 (un (hidF X fb) po) base T1 w oo co M
  piv : OL (NatIn .i64) 1 (un (hidF X fb) oo) base T3 w po pc p
  fac : ∃ s a n c d k e, Bx w fb #[.bool s, .slice a n c, .slice d k e] T2 ∧ QC (mk (hidZ X fb po oo) w) (.agg #[.bool s, .slice a n c, .slice d k e]) f
  hx : HX X w
  res : Bx w b #[.bool false, .slice none 0 0, .slice none 0 0] T2
  rb : X b = true
  fb0 : fb ≠ b
  ext : Ext w0 w
  low : w0.heap.size ≤ base
  lowf : w0.heap.size ≤ fb
section
variable {X : Nat → Bool} {w0 w w' : World} {b fb base : Nat} {T1 T2 T3 : TypeId} {oo po : Option Addr} {co pc : Nat} {M M' : List (List Rat)} {p : List Nat} {f f' : Rat}
theorem RS.oF (h : RS X w0 b fb base T1 T2 T3 w oo co po pc M p f) : ob oo fb = false := by
  cases hb : ob oo fb
  · rfl
  · have := h.rows.1 fb hb; rw [un_left (un_right (ob_self fb))] at this; simp at this
theorem RS.pF (h : RS X w0 b fb base T1 T2 T3 w oo co po pc M p f) : ob po fb = false := by
  cases hb : ob po fb
  · rfl
  · have := h.piv.1 fb hb; rw [un_left (un_right (ob_self fb))] at this; simp at this
theorem RS.oB (h : RS X w0 b fb base T1 T2 T3 w oo co po pc M p f) : ob oo b = false := by
  cases hb : ob oo b
  · rfl
  · have := h.rows.1 b hb; rw [un_left (un_left h.rb)] at this; simp at this
theorem RS.pB (h : RS X w0 b fb base T1 T2 T3 w oo co po pc M p f) : ob po b = false := by
  cases hb : ob po b
  · rfl
  · have := h.piv.1 b hb; rw [un_left (un_left h.rb)] at this; simp at this
theorem RS.po_oo (h : RS X w0 b fb base T1 T2 T3 w oo co po pc M p f) (k : Nat) (hk : ob po k = true) : ob oo k = false := (un_false (h.piv.1 k hk)).2
theorem RS.flt (h : RS X w0 b fb base T1 T2 T3 w oo co po pc M p f) : fb < w.heap.size := by
  obtain ⟨_, _, _, _, _, _, _, h1, _⟩ := h.fac; exact h1.lt
/-- All that is hidden is there. -/
theorem RS.hz (h : RS X w0 b fb base T1 T2 T3 w oo co po pc M p f) : HX (hidZ X fb po oo) w := fun k hk => by
  by_cases h1 : ob oo k = true
  · exact (h.rows.block h1).2
  · by_cases h2 : ob po k = true
    · exact (h.piv.block h2).2
    · by_cases h3 : X k = true
      · exact h.hx k h3
      · have h1' : ob oo k = false := by simpa using h1
        have h2' : ob po k = false := by simpa using h2
        have h3' : X k = false := by simpa using h3
        have h4 : ob (some ⟨fb, 0, none⟩) k = true := by simpa [hidZ, hidF, un, h1', h2', h3'] using hk
        have : fb = k := by simpa [ob] using h4
        rw [← this]; exact h.flt
/-- Its rows, read outside of all of it. -/
theorem RS.row (h : RS X w0 b fb base T1 T2 T3 w oo co po pc M p f) (i : Nat) (hi : i < M.length) : ∃ a c, w.cell? (adr oo i) = some (.slice a M[i].length c) ∧ w.frozen? (adr oo i) = false ∧ M[i].length ≤ c ∧ Sl QC 3 (_root_.Go.Rep.mk (hidZ X fb po oo) w) a M[i] := by
  obtain ⟨u, h1, h2, a, c, rfl, h4, h5⟩ := h.rows.cell SlV.one i hi
  exact ⟨a, c, h1, h2, h4, h5⟩
theorem RS.ext0 (h : RS X w0 b fb base T1 T2 T3 w oo co po pc M p f) (hE : Ext w w') : RS X w0 b fb base T1 T2 T3 w' oo co po pc M p f := by
  obtain ⟨s, a, n, c, d, k, e, h1, h2⟩ := h.fac
  exact ⟨h.rows.ext0 RC.elem hE, h.piv.ext0 (NatIn.elem _) hE, ⟨s, a, n, c, d, k, e, h1.ext0 hE, mkx QC.mono h2 hE⟩, h.hx.ext hE, h.res.ext0 hE, h.rb, h.fb0, h.ext.trans hE, h.low, h.lowf⟩
/-- Rows were written. -/
theorem RS.setRows (h : RS X w0 b fb base T1 T2 T3 w oo co po pc M p f) (hE : ExtX (ob oo) w w') (hO : OL RC 1 (un (hidF X fb) po) base T1 w' oo co M') : RS X w0 b fb base T1 T2 T3 w' oo co po pc M' p f := by
  obtain ⟨s, a, n, c, d, k, e, h1, h2⟩ := h.fac
  exact ⟨hO, h.piv.frame (NatIn.pure _) hE (fun k hk => h.po_oo k hk) h.piv.1, ⟨s, a, n, c, d, k, e, h1.ext hE h.oF, QC.mono _ _ _ _ (mk_mono hE fun k hk => un_right hk) h2⟩, h.hx.ext hE, h.res.ext hE h.oB, h.rb, h.fb0, h.ext.own h.rows h.low hE, h.low, h.lowf⟩
/-- The factor was written. -/
theorem RS.setFac (h : RS X w0 b fb base T1 T2 T3 w oo co po pc M p f) (hE : ExtX (ob (some ⟨fb, 0, none⟩)) w w') {s : Bool} {a : Option Addr} {n c : Nat} {d : Option Addr} {k e : Nat} (hB : Bx w' fb #[.bool s, .slice a n c, .slice d k e] T2) (hq : QC (_root_.Go.Rep.mk (hidZ X fb po oo) w') (.agg #[.bool s, .slice a n c, .slice d k e]) f') : RS X w0 b fb base T1 T2 T3 w' oo co po pc M p f' := by
  have hf : ∀ k, ob (some ⟨fb, 0, none⟩) k = true → k = fb := fun k hk => by
    have : fb = k := by simpa [ob] using hk
    exact this.symm
  refine ⟨h.rows.ext RC.elem hE (fun k _ hk => un_left (un_right hk)) (fun _ _ h => h), h.piv.frame (NatIn.pure _) hE (fun k hk => ?_) h.piv.1, ⟨s, a, n, c, d, k, e, hB, hq⟩, h.hx.ext hE, h.res.ext hE (ob_other (Ne.symm h.fb0)), h.rb, h.fb0, h.ext.then_ hE fun k hk _ => ?_, h.low, h.lowf⟩
  · cases hb : ob (some ⟨fb, 0, none⟩) k
    · rfl
    · have := hf k hb; subst this; rw [h.pF] at hk; simp at hk
  · cases hb : ob (some ⟨fb, 0, none⟩) k
    · rfl
    · have := hf k hb; have := h.lowf; omega
/-- A pivot was appended. -/
theorem RS.push (h : RS X w0 b fb base T1 T2 T3 w oo co po pc M p f) {po2 : Option Addr} {pc2 j : Nat} (hE : ExtX (ob po) w w') (hP : OL (NatIn .i64) 1 (un (hidF X fb) oo) base T3 w' po2 pc2 (p ++ [j])) (hor : po2 = po ∨ ∃ g, po2 = some ⟨g, 0, none⟩ ∧ w.heap.size ≤ g) : RS X w0 b fb base T1 T2 T3 w' oo co po2 pc2 M (p ++ [j]) f := by
  obtain ⟨s, a, n, c, d, k, e, h1, h2⟩ := h.fac
  have hold : ∀ k, k < w.heap.size → ob po2 k = true → ob po k = true := fun k hk h9 => by
    rcases hor with rfl | ⟨g, rfl, hg⟩
    · exact h9
    · have : g = k := by simpa [ob] using h9
      omega
  have hF : ∀ k, k < w.heap.size → un (hidF X fb) po2 k = true → un (hidF X fb) po k = true := fun k hk hz => by
    by_cases hx : hidF X fb k = true
    · exact un_left hx
    · exact un_right (hold k hk (by simpa [un, hx] using hz))
  refine ⟨h.rows.ext RC.elem hE (fun k _ hk => un_right hk) hF, hP, ⟨s, a, n, c, d, k, e, h1.ext hE h.pF, QC.mono _ _ _ _ (mk_over hE (fun k _ hk => un_left (un_right hk)) fun k hk hz => ?_) h2⟩, h.hx.ext hE, h.res.ext hE h.pB, h.rb, h.fb0, h.ext.own h.piv h.low hE, h.low, h.lowf⟩
  by_cases ho : ob oo k = true
  · exact un_right ho
  · exact un_left (hF k hk (by simpa [un, ho] using hz))
end
end Go.Rep


namespace Go.Lin
open Go.Lim
/-- Bounds that the reference's elimination keeps. -/
def TameR (m : Mat) (c : Nat) : Prop := ∃ B, 6 * B ≤ 68719476736 ∧ ∀ j, j ≤ c → HB B (rN m j).1 ∧ hq (rN m j).2.2 ≤ B
theorem rN_plen {n c : Nat} {m : Mat} (hs : Shp n c m) (k : Nat) : (rN m k).2.1.length ≤ n := (rN_ok hs k).ref.le
theorem tamer_of {n c B : Nat} {m : Mat} (hs : Shp n c m) (h : HB B m) (hB : 6 * (6 ^ n * B) ≤ 68719476736) : TameR m c :=
  ⟨6 ^ n * B, hB, fun j _ => by
    obtain ⟨h1, h2⟩ := h.rN hs j
    have hp : 6 ^ (rN m j).2.1.length * B ≤ 6 ^ n * B := Nat.mul_le_mul_right _ (Nat.pow_le_pow_right (by decide) (rN_plen hs j))
    exact ⟨h1.mono hp, Nat.le_trans h2 hp⟩⟩
theorem rN_succ (m : Mat) (k : Nat) : rN m (k + 1) = rStep (rN m k) k := rfl
theorem getD_row' {m : Mat} {i : Nat} (h : i < m.length) : m.getD i [] = m[i] := by simp [List.getD_eq_getElem?_getD, h]
theorem ent_row {m : Mat} {i : Nat} (h : i < m.length) (j : Nat) : ent m i j = (m[i]).getD j 0 := by unfold ent; rw [getD_row' h]
theorem nz_none {m : Mat} {n t col : Nat} (hl : m.length = n) (h : ∀ q, t ≤ q → q < n → ent m q col = 0) : nzAt m t col = none := by
  unfold nzAt
  rw [List.findIdx?_eq_none_iff]
  intro r hr
  obtain ⟨i, hi, rfl⟩ := List.getElem_of_mem hr
  rw [List.length_drop] at hi
  have := h (t + i) (by omega) (by omega)
  rw [ent_row (by omega)] at this
  simpa using this
theorem nz_some {m : Mat} {n t col a : Nat} (hl : m.length = n) (h : ∀ q, t ≤ q → q < t + a → ent m q col = 0) (ha : t + a < n) (hne : ent m (t + a) col ≠ 0) : nzAt m t col = some a := by
  unfold nzAt
  rw [List.findIdx?_eq_some_iff_getElem]
  refine ⟨by rw [List.length_drop]; omega, ?_, fun j hj => ?_⟩
  · rw [List.getElem_drop, ← ent_row (by omega)]; simpa using hne
  · rw [List.getElem_drop, ← ent_row (by omega)]; simpa using h (t + j) (by omega) (by omega)
theorem out_zero (m : Mat) (t col : Nat) : out m t col 0 = m := by
  unfold out rows
  refine List.ext_getElem (by simp) fun q h1 h2 => ?_
  rw [List.getElem_mapIdx, if_neg (by omega)]
theorem out_len (m : Mat) (t col s : Nat) : (out m t col s).length = m.length := by simp [out, rows]
theorem out_get {m : Mat} {t col s i : Nat} (h : i < (out m t col s).length) (h2 : i < m.length) : (out m t col s)[i] = if i ≠ t ∧ i < s then List.zipWith (· + ·) m[i] ((m.getD t []).map (· * - m[i].getD col 0)) else m[i] := by
  show (m.mapIdx _)[i]'(by simpa using h2) = _
  rw [List.getElem_mapIdx]
theorem out_set {m : Mat} {t col s : Nat} (h : s < m.length) (hst : s ≠ t) : (out m t col s).set s (List.zipWith (· + ·) m[s] ((m.getD t []).map (· * - m[s].getD col 0))) = out m t col (s + 1) := by
  refine List.ext_getElem (by simp [out_len]) fun q h1 h2 => ?_
  have hq : q < m.length := by rw [out_len] at h2; exact h2
  rw [List.getElem_set, out_get h2 hq]
  split
  · subst_vars; rw [if_pos ⟨hst, by omega⟩]
  · rw [out_get (by simpa [out_len] using hq) hq]
    by_cases a : q ≠ t ∧ q < s
    · rw [if_pos a, if_pos ⟨a.1, by omega⟩]
    · rw [if_neg a, if_neg (by omega)]
theorem out_skip {m : Mat} {t col : Nat} : out m t col t = out m t col (t + 1) := by
  refine List.ext_getElem (by simp [out_len]) fun q h1 h2 => ?_
  have hq : q < m.length := by rw [out_len] at h2; exact h2
  rw [out_get h1 hq, out_get h2 hq]
  by_cases a : q ≠ t ∧ q < t
  · rw [if_pos a, if_pos ⟨a.1, by omega⟩]
  · rw [if_neg a, if_neg (by omega)]
theorem swapL_set {m : Mat} {i k : Nat} (hi : i < m.length) (hk : k < m.length) : (m.set i m[k]).set k m[i] = swapL m i k := by
  unfold swapL; rw [getD_row' hi, getD_row' hk]
/-- One step of the reference's elimination that finds a pivot. -/
theorem rN_piv {n c : Nat} {m M : Mat} {P : List Nat} {f : Rat} {j pl a : Nat} (hs : Shp n c m) (hst : rN m j = (M, P, f)) (hpl : P.length = pl) (hz : ∀ q, pl ≤ q → q < pl + a → ent M q j = 0) (ha : pl + a < n) (hne : ent M (pl + a) j ≠ 0) :
    rN m (j + 1) = (out (pv (swapL M (pl + a) pl) pl j) pl j n, P ++ [j], (if a = 0 then f else - f) * ent (swapL M (pl + a) pl) pl j) := by
  have hM : Shp n c M := by have := (rN_ok hs j).shp; rw [hst] at this; exact this
  subst hpl
  rw [rN_succ, hst]
  unfold rStep
  dsimp only
  rw [nz_some hM.1 hz ha hne]
  dsimp only
  rw [hM.1]
theorem rN_none {n c : Nat} {m M : Mat} {P : List Nat} {f : Rat} {j pl : Nat} (hs : Shp n c m) (hst : rN m j = (M, P, f)) (hpl : P.length = pl) (hz : ∀ q, pl ≤ q → q < n → ent M q j = 0) : rN m (j + 1) = (M, P, f) := by
  have hM : Shp n c M := by have := (rN_ok hs j).shp; rw [hst] at this; exact this
  subst hpl
  rw [rN_succ, hst]
  unfold rStep
  dsimp only
  rw [nz_none hM.1 hz]
end Go.Lin
namespace Go.Rep
open Go.RowKit
theorem ob_hid {X : Nat → Bool} {b k : Nat} (h : X b = true) (hk : ob (some ⟨b, 0, none⟩) k = true) : X k = true := by
  have : b = k := by simpa [ob] using hk
  subst this; exact h
section
variable {P : Program} {w : World}
/-- The last result of three lies in a block. -/
theorem results_ttb {fn : Func} {tmps : Array Value} {c d e : Tmp} {t : TypeId} {n b : Nat} {cs : Array Value} {T : TypeId} (h : fn.results = #[.tmp d, .tmp e, .cell c t]) (hp : tmps.getD c undef = .pointer (some ⟨b, 0, none⟩)) (hT : StructT P t n) (hb : Bx w b cs T) (hcs : cs.size = n) :
    (results fn tmps).run P w = .ok (.tuple #[tmps.getD d undef, tmps.getD e undef, .agg cs]) w := by
  have hl := run_loadBox (P := P) hT hb hcs
  rw [Array.getD_eq_getD_getElem?] at hp
  simp [results, h, hp, asAddr, hl]
end
end Go.Rep


namespace Go
section
variable {P : Program} {ops : Array Oper} {Q : Exit → Act → World → Prop} {md : Region.Mode} {S : World → Prop} {n : Nat}
/-- Whatever order is picked from here on, and S holds behind every operation ahead of number n that is carried out. -/
def wpAnyK (P : Program) (md : Region.Mode) (ops : Array Oper) (Q : Exit → Act → World → Prop) (S : World → Prop) (n : Nat) : Nat → Array Bool → Act → World → Prop
  | 0, listed, a, w => Region.ready md ops listed = [] ∧ Q .normal a w
  | fuel + 1, listed, a, w =>
    (Region.ready md ops listed = [] → Q .normal a w) ∧
    ∀ i ∈ Region.ready md ops listed, wpOp P ops Q i (fun a' w' => (i < n → S w') ∧ wpAnyK P md ops Q S n fuel (listed.setIfInBounds i true) a' w') a w
theorem wpAny_of_K : ∀ (fuel : Nat) (listed : Array Bool) (a : Act) (w : World), wpAnyK P md ops Q S n fuel listed a w → wpAny P md ops Q fuel listed a w
  | 0, _, _, _, h => h
  | fuel + 1, _, _, _, h => ⟨h.1, fun i hi => wpOp_mono (fun a' w' h' => wpAny_of_K fuel _ a' w' h'.2) (h.2 i hi)⟩
theorem wpAnyK_first {i : Nat} {oi : Oper} {v : Value} (hs : Region.sinkB md ops n = true) (hc : Region.chainB md ops n = true) (hn : n < ops.size) (hin : i < n) (hi : ops[i]? = some oi) (hsel : ∀ (j : Nat) (o : Oper) cs b, ops[j]? = some o → o.op ≠ .select cs b)
    (hQ : ∀ c a w, Q (.panic c) (a.put oi.dst v) w → Q (.panic c) a w) :
    ∀ (fuel : Nat) (listed : Array Bool) (a : Act) (w : World), HeadInv md ops n listed →
      (∀ j oj, ops[j]? = some oj → j ≠ i → listed.getD j true = false → (∀ e ∈ oj.after, Region.binds md e = true → e.on ≠ i) → oi.apart ops oj = true) →
      i ∈ Region.ready md ops listed → YieldsIf P ops S oi v a → S w →
      wpAnyK P md ops Q S n fuel (listed.setIfInBounds i true) (a.put oi.dst v) w → wpAnyK P md ops Q S n (fuel + 1) listed a w := by
  intro fuel
  induction fuel with
  | zero =>
    intro listed a w _ _ hr hy hS H
    refine ⟨fun h => (by rw [h] at hr; cases hr), fun j hj => ?_⟩
    by_cases hji : j = i
    · subst hji; exact hy.wpOp hi hS ⟨fun _ => hS, H⟩
    · have := ready_mono hj hji
      rw [H.1] at this
      cases this
  | succ fuel ih =>
    intro listed a w inv hfree hr hy hS H
    refine ⟨fun h => (by rw [h] at hr; cases hr), fun j hj => ?_⟩
    by_cases hji : j = i
    · subst hji; exact hy.wpOp hi hS ⟨fun _ => hS, H⟩
    · have hjn : j < n := by
        rcases Nat.lt_or_ge j n with h | h
        · exact h
        · exact absurd hj (tail_waits hs hc hn inv (n - i) i rfl hin (mem_ready.1 hr).1 j h)
      have h1 := H.2 j (ready_mono hj hji)
      obtain ⟨hjun, oj, hoj, hall⟩ := mem_ready.1 hj
      have hnot : ∀ e ∈ oj.after, Region.binds md e = true → e.on ≠ i := fun e he hb heq => by
        have h1 := hall e he hb
        have h0 := (mem_ready.1 hr).1
        rw [heq] at h1
        rcases Nat.lt_or_ge i listed.size with h' | h'
        · simp [h'] at h0 h1; rw [h0] at h1; cases h1
        · simp [Array.getElem?_eq_none h'] at h1
      have h2 := wpOp_putIf hoj (hfree j oj hoj hji hjun hnot) (fun cs b => hsel i oi cs b hi) (fun cs b => hsel j oj cs b hoj) hQ hy h1
      have hfree' : ∀ k ok, ops[k]? = some ok → k ≠ i → (listed.setIfInBounds j true).getD k true = false →
          (∀ e ∈ ok.after, Region.binds md e = true → e.on ≠ i) → oi.apart ops ok = true := fun k ok hk hki hun hno => by
        refine hfree k ok hk hki ?_ hno
        by_cases hjk : j = k
        · subst hjk; exact hjun
        · rw [getD_set_ne true hjk] at hun; exact hun
      refine wpOp_mono (fun a' w' h3 => ⟨h3.2.1, ih (listed.setIfInBounds j true) a' w' (inv.set hj hjn) hfree' (ready_mono hr (Ne.symm hji)) h3.1 (h3.2.1 hjn) ?_⟩) h2
      rw [Array.setIfInBounds_comm _ _ hji]
      exact h3.2.2
/-- The invariant of what is listed, asl a Bool. -/
def headB (md : Region.Mode) (ops : Array Oper) (n : Nat) (listed : Array Bool) : Bool :=
  decide (listed.size = ops.size) &&
  ((List.range ops.size).all fun j => !listed.getD j false || (match ops[j]? with | some o => o.after.all fun e => !Region.binds md e || listed.getD e.on false | none => true)) &&
  ((List.range ops.size).all fun t => decide (t < n) || !listed.getD t true)
theorem headB_inv {listed : Array Bool} (h : headB md ops n listed = true) : HeadInv md ops n listed := by
  unfold headB at h
  simp only [Bool.and_eq_true, decide_eq_true_eq] at h
  obtain ⟨⟨h1, h2⟩, h3⟩ := h
  refine ⟨h1, fun j oj hj hl e he hb => ?_, fun t ht ht' => ?_⟩
  · have hlt : j < ops.size := (Array.getElem?_eq_some_iff.1 hj).1
    have h4 := List.all_eq_true.1 h2 j (List.mem_range.2 hlt)
    rw [hl, hj] at h4
    simp only [Bool.not_true, Bool.false_or] at h4
    have h5 := Array.all_eq_true_iff_forall_mem.1 h4 e he
    rw [hb] at h5
    simpa using h5
  · have h4 := List.all_eq_true.1 h3 t (List.mem_range.2 ht')
    simp only [Bool.or_eq_true, decide_eq_true_eq, Bool.not_eq_true'] at h4
    rcases h4 with h4 | h4
    · omega
    · exact h4
/-- What a take asks of the region, asl a Bool. -/
def takeB (md : Region.Mode) (ops : Array Oper) (n i : Nat) (listed : Array Bool) : Bool :=
  decide (i < n) && headB md ops n listed && Region.free md ops listed i && (Region.ready md ops listed).contains i
/-- What is asked once. -/
def onceB (md : Region.Mode) (ops : Array Oper) (n : Nat) : Bool := Region.sinkB md ops n && Region.chainB md ops n && decide (n < ops.size) && Region.noSelect ops
theorem wpAnyK_take {i : Nat} {oi : Oper} {v : Value} {fuel : Nat} {listed : Array Bool} {a : Act} {w : World} (hO : Shut (onceB md ops n = true)) (hi : ops[i]? = some oi)
    (hB : takeB md ops n i listed = true)
    (hQ : ∀ c a w, Q (.panic c) (a.put oi.dst v) w → Q (.panic c) a w) (hS : S w) (hw : Region.wanted oi (yielded ops a.tmps) = true) (hy : ∀ w, S w → (execOp a.eval oi).run P w = .ok (.value v) w)
    (h : wpAnyK P md ops Q S n fuel (listed.setIfInBounds i true) (a.put oi.dst v) w) : wpAnyK P md ops Q S n (fuel + 1) listed a w := by
  unfold takeB at hB
  simp only [Bool.and_eq_true, decide_eq_true_eq] at hB
  obtain ⟨⟨⟨b4, b5⟩, b7⟩, b8⟩ := hB
  have hO := hO.out
  unfold onceB at hO
  simp only [Bool.and_eq_true, decide_eq_true_eq] at hO
  obtain ⟨⟨⟨b1, b2⟩, b3⟩, b6⟩ := hO
  exact wpAnyK_first b1 b2 b3 b4 hi (Region.noSelect_spec b6) hQ fuel listed a w (headB_inv b5) (Region.free_spec hi b7) (by simpa using b8) (.inl ⟨hw, hy⟩) hS h
/-- One alone may come up: behind it S is shown anew. -/
theorem wpAnyK_step {i : Nat} {o : Oper} {fuel : Nat} {listed : Array Bool} {a : Act} {w : World} (hr : Region.ready md ops listed = [i]) (ho : ops[i]? = some o)
    (h : ∀ K' : Act → World → Prop, Shut (∀ a w, S w → (S w → wpAnyK P md ops Q S n fuel (listed.setIfInBounds i true) a w) → K' a w) → if Region.wanted o (yielded ops a.tmps) = true then Oper.wp P o a w K' Q else K' (a.put o.dst undef) w) : wpAnyK P md ops Q S n (fuel + 1) listed a w := by
  refine ⟨fun h0 => (by rw [hr] at h0; cases h0), fun j hj => ?_⟩
  rw [hr] at hj
  have : j = i := by simpa using hj
  subst this
  exact wpOp_step ho (fun K' hK => h K' (fun a w hS hW => hK a w ⟨fun _ => hS, hW hS⟩))
/-- The last operation. -/
theorem wpAnyK_last {i : Nat} {o : Oper} {fuel : Nat} {listed : Array Bool} {a : Act} {w : World} (hr : Region.ready md ops listed = [i]) (ho : ops[i]? = some o) (hin : n ≤ i)
    (hd : Region.ready md ops (listed.setIfInBounds i true) = [])
    (h : ∀ K' : Act → World → Prop, Shut (∀ a w, Q .normal a w → K' a w) → if Region.wanted o (yielded ops a.tmps) = true then Oper.wp P o a w K' Q else K' (a.put o.dst undef) w) : wpAnyK P md ops Q S n (fuel + 1) listed a w := by
  refine ⟨fun h0 => (by rw [hr] at h0; cases h0), fun j hj => ?_⟩
  rw [hr] at hj
  have : j = i := by simpa using hj
  subst this
  refine wpOp_step ho (fun K' hK => h K' (fun a w hq => hK a w ⟨fun hlt => absurd hlt (Nat.not_lt.2 hin), ?_⟩))
  cases fuel with
  | zero => exact ⟨hd, hq⟩
  | succ f => exact ⟨fun _ => hq, by rw [hd]; simp⟩
theorem wp_region_K {id : Nat} {a : Act} {w : World} (n : Nat) (S : World → Prop) (hm : P.follows .mixedOrders = true) (hO : onceB .any ops n = true) (hS : S w.drew)
    (h : S w.drew → Shut (onceB .any ops n = true) → wpAnyK P .any ops Q S n ops.size (Array.replicate ops.size false) a w.drew) : (Code.region id ops true).wp P Q a w :=
  wp_region_any hm (wpAny_of_K _ _ _ _ (h hS hO))
end
end Go


namespace Go.Proofs.YtjbhcniiioepgaaGreat
open Go.RowKit Go.Rep Go.Lim Go.Lin
attribute [local go_sem ↓] Go.wp_at_zero Go.wp_at_succ

/-- What the reference's elimination hands back. -/
def RedOut (X : Nat → Bool) (w : World) (S : Sr) (e : Ending) (w' : World) : Prop := Ext w w' ∧ ∃ oo co po pc uf, e = .returned (.tuple #[.slice oo S.1.length co, .slice po S.2.1.length pc, uf]) ∧ S.1.length ≤ co ∧ S.2.1.length ≤ pc ∧ Sl RC 1 (mk X w') oo S.1 ∧ Sl (NatIn .i64) 1 (mk X w') po S.2.1 ∧ QC (mk X w') uf S.2.2

set_option maxRecDepth 100000 in
set_option maxHeartbeats 1600000 in
theorem rreduce_any (X : Nat → Bool) (w : World) (u : Value) (m : List (List Rat)) (n c : Nat) (hX : HX X w) (hu : MV (mk X w) u m) (hsh : Shp n c m) (hc : colsL m = c) (hn : n ≤ 900) (hcc : c ≤ 900) (hT : TameR m c) : Calls Tryz.prog 94 #[u] w (RedOut X w (rN m c)) := by
  obtain ⟨W, hW, hEW, b0, hz⟩ := boxes1 w #[.bool false, .slice none 0 0, .slice none 0 0] 31
  have hX1 : HX (hidB X w.heap.size 1) W := hX.boxes hz
  have hu1 : MV (mk (hidB X w.heap.size 1) W) u m := MV.mono _ _ _ _ (le_boxes hEW) hu
  have htk := rmtakeO (hidB X w.heap.size 1) W u m hX1 hu1 (by rw [hsh.1]; omega) (fun r hr => by rw [hsh.2 r hr]; omega)
  have hml := hid hsh.1
  have hsh' := hid hsh
  have hn0 : Hid (n = 0 → c = 0) := hid fun h => by
    have : m = [] := List.eq_nil_of_length_eq_zero (by rw [hml.out]; exact h)
    rw [← hc, this]; rfl
  obtain ⟨B, hB6, hBj⟩ := hT
  have hBj' := hid hBj
  have hB6' := hid hB6
  have hunb : Hid (∀ w', Le (mk (hidB X w.heap.size 1) w') (mk X w')) := hid fun w' => le_unbox
  have hrb : Hid (hidB X w.heap.size 1 w.heap.size = true) := hid (hidB_in (Nat.le_refl _) (by omega))
  obtain ⟨X1, hX1e⟩ : ∃ X1, hidB X w.heap.size 1 = X1 := ⟨_, rfl⟩
  obtain ⟨b, hb⟩ : ∃ b, w.heap.size = b := ⟨_, rfl⟩
  rw [hX1e] at hX1 htk hunb hrb
  rw [hb] at b0 hrb
  have hbW : W.heap.size = b + 1 := by rw [← hb]; exact hz
  have hbw' : Hid (w.heap.size = b) := hid hb
  clear hu hu1 hX1e hz hb hsh hBj hB6
  go_enter Tryz.func94, Tryz.ntmps94
  go_wp2_with fail
  refine htk.mono ?_
  rintro e w1 ⟨hE1, oo, co, rfl, hO1⟩
  have hXu1 : HX (un X1 oo) w1 := hO1.unX (hX1.ext hE1)
  clear hW
  rw [hml.out]
  go_wp2_with fail
  refine (rqfrom (un X1 oo) w1 1 hXu1 (by decide) (by decide)).mono ?_
  rintro e w2 ⟨hE2, u2, rfl, hu2⟩
  obtain ⟨s2, a2, n2, c2, d2, k2, e2, rfl⟩ := hu2.shape
  have bf := Bx.new w2 #[.bool false, .slice none 0 0, .slice none 0 0] 31
  go_wp2_with ((with_reducible show wpList _ _ _ (⟨_, .store _ _ _, _, _, _, _⟩ :: _) _ _); refine st_storeBox stRat rfl rfl bf rfl rfl (one3 _ _ _ _ _ _ _) ?_; intro w3 r1 r2)
  have hE3 : Ext w2 w3 := ExtX.box ((ExtX.refl w2).alloc _) r2 (Nat.le_refl _)
  have hO2 := hO1.ext0 RC.elem hE2
  have hob2 : ∀ k, ob oo k = true → k < w2.heap.size := fun k hk => (hO2.block hk).2
  obtain ⟨fb, hfb⟩ : ∃ fb, w2.heap.size = fb := ⟨_, rfl⟩
  obtain ⟨base, hbase⟩ : ∃ base, W.heap.size = base := ⟨_, rfl⟩
  have hs1 := hE1.size
  have hs2 := hE2.size
  have hR0 : RS X1 w b fb base 33 31 3 w3 oo co none 0 m [] 1 := by
    subst hfb hbase
    refine ⟨hO2.ext RC.elem hE3 (fun k _ h => by simp [noY] at h) (fun k hk hz => ?_), OL.nil _ _ _ _ _ _, ⟨s2, a2, n2, c2, d2, k2, e2, r1, QC.mono _ _ _ _ (mk_over hE3 (fun k _ h => by simp [noY] at h) fun k hk hz => ?_) hu2⟩, hX1.ext (hE1.trans (hE2.trans hE3)), b0.ext0 (hE1.trans (hE2.trans hE3)), hrb.out, ?_, hEW.trans (hE1.trans (hE2.trans hE3)), ?_, ?_⟩
    · by_cases h : X1 k = true
      · exact h
      · have h' : X1 k = false := by simpa using h
        have : w2.heap.size = k := by simpa [un, hidF, ob, h'] using hz
        omega
    · by_cases h : un X1 oo k = true
      · exact h
      · have h' : un X1 oo k = false := by simpa using h
        obtain ⟨h1, h2⟩ := un_false h'
        have e1 : ob (none : Option Addr) k = false := rfl
        have e2 : ob (some ⟨w2.heap.size, 0, none⟩) k = (w2.heap.size == k) := rfl
        have : w2.heap.size = k := by simpa [un, hidZ, hidF, h1, h2, e1, e2] using hz
        omega
    · omega
    · have := hEW.size; omega
    · have := hEW.size; omega
  have hcap : n ≤ co := by have := hO1.lenCap; rw [hml.out] at this; exact this
  have hhO : Hd oo n := by have := hO1.hd; rw [hml.out] at this; exact this
  rw [hfb, hbw'.out]
  clear hO1 hO2 hob2 hu2 bf r1 r2 hE1 hE2 hE3 hs1 hs2 htk b0 hX1 hXu1 hEW hfb hbase hbW
  go_loopg [5, 7] c (fun g p k wr => ∃ (j : Nat) (po : Option Addr) (pc pl : Nat) (M : Mat) (P : List Nat) (f : Rat), k = .int .i64 j ∧ p = .slice po pl pc ∧ j + g = c ∧ Hid (P.length = pl) ∧ Hid (rN m j = (M, P, f)) ∧ RS X1 w b fb base 33 31 3 wr oo co po pc M P f)
  case atStart => exact ⟨0, none, 0, 0, m, [], 1, rfl, rfl, by omega, hid rfl, hid rfl, hR0⟩
  case round =>
    obtain ⟨j, po, pc, pl, M, P, f, rfl, rfl, hj, hpl, hst, hR⟩ := hrel
    have hok := rN_ok hsh'.out j
    rw [hst.out] at hok
    have hM := hid hok.shp
    have hMl : Hid (M.length = n) := hid hM.out.1
    have hpn : pl ≤ n := by have h1 : P.length ≤ n := hok.ref.le; rw [hpl.out] at h1; exact h1
    have hBM := hid (hBj'.out j (by omega))
    rw [hst.out] at hBM
    have hcolM : colsL M = c := colsL_shp hM.out hn0.out
    have hco := rcolumns (R := QC) (un (hidF X1 fb) po) wr (.slice oo n co) M ⟨oo, co, by rw [hMl.out], by rw [hMl.out]; exact hcap, hR.rows.sl RC.elem⟩
    rw [hcolM] at hco
    clear hok hcolM
    by_cases hlj : j < c
    · go_wp2_with fail
      refine hco.mono ?_
      rintro e w2 ⟨rfl, rfl⟩
      clear hco
      go_wp2_with fail
      go_loopw [9] (fun a wx => ∃ (t : Nat), a = .int .i64 t ∧ pl ≤ t ∧ t ≤ n ∧ Hid (∀ i, pl ≤ i → i < t → ent M i j = 0) ∧ RS X1 w b fb base 33 31 3 wx oo co po pc M P f) (fun a _ => n - (intOf a).toNat)
      case atStart => exact ⟨pl, rfl, Nat.le_refl _, hpn, hid (fun i h1 h2 => by omega), hR⟩
      case round =>
        clear hR
        obtain ⟨t, rfl, htl, htn, hzz, hR⟩ := hrel
        by_cases htt : t < n
        · have htM : t < M.length := by rw [hMl.out]; exact htt
          obtain ⟨a1, c1, k00, f00, hcl1, hq1⟩ := hR.row t htM
          have hrl : Hid (M[t].length = c) := hid (hM.out.2 _ (List.getElem_mem _))
          have hjr : j < M[t].length := by rw [hrl.out]; exact hlj
          have hei := hid (ent_at htM hjr)
          rw [hrl.out] at k00 hcl1
          have hh1 : Hd a1 c := by have := hq1.hd; rw [hrl.out] at this; exact this
          have hxB := hid (hBM.out.1 t j)
          have hZr := hR.hz
          obtain ⟨g9, o9, s5, a5, n5, c5, d5, k5, e5, hg9, hX9, hc9, hu5⟩ := hq1.rat QC.shaped j hjr
          rw [hei.out] at hu5
          obtain ⟨x, hx⟩ : ∃ x, ent M t j = x := ⟨_, rfl⟩
          rw [hx] at hei hxB hu5
          have hx' := hid hx
          obtain ⟨k10, k11, k12⟩ := hc9.out noY wr (ExtX.refl _) rfl
          have i1 : ∀ W, (Instr.indexAt 23 (.slice oo n co) (.int .i64 (t : Int))).run Tryz.prog W = .ok (.pointer (some (adr oo t))) W := run_ix1 slRats oo n co .i64 t hhO (by omega) rfl
          have i2 : ∀ W, (Instr.indexAt 33 (.slice a1 c c1) (.int .i64 (j : Int))).run Tryz.prog W = .ok (.pointer (some ⟨g9, o9, none⟩)) W := by rw [← hg9]; exact run_indexAt_adr slRat a1 c c1 .i64 j hh1 (by omega)
          clear hx f00 hc9 hg9 hX9
          by_cases h0 : x = 0
          · have hs0 : (x.num.sign == (0 : Int)) = true := by rw [h0]; rfl
            have hzz2 : Hid (∀ i, pl ≤ i → i < t + 1 → ent M i j = 0) := hid fun i h1 h2 => by
              by_cases e : i = t
              · subst e; rw [hx'.out]; exact h0
              · exact hzz.out i h1 (by omega)
            clear h0
            go_wp2_with fail
            refine (rqsign (hidZ X1 fb po oo) wr _ x hZr (hu5.qv (by have := hxB.out; have := hB6'.out; omega))).mono ?_
            rintro e w5 ⟨hE5, rfl⟩
            have hR5 := hR.ext0 hE5
            clear k00 k10 k11 k12 i1 i2
            go_wp2_with fail
            go_roundw
            case rel => exact ⟨t + 1, by go_num, by omega, by omega, hzz2, hR5⟩
            case measure => simp [intOf]; omega
          · have hs0 : (x.num.sign == (0 : Int)) = false := beqF (by intro h; exact h0 (Rat.num_eq_zero.1 (Int.sign_eq_zero_iff_zero.1 h)))
            have hx0 := hid h0
            have hne : ((t : Int) == (n : Int)) = false := beqF (by omega)
            clear h0
            go_wp2_with fail
            refine (rqsign (hidZ X1 fb po oo) wr _ x hZr (hu5.qv (by have := hxB.out; have := hB6'.out; omega))).mono ?_
            rintro e w5 ⟨hE5, rfl⟩
            have hR5 := hR.ext0 hE5
            clear k00 k10 k11 k12 i1 i2 hR hE5 hZr hq1 hu5 hh1
            go_upto_if 46 with (fail)
            have hplM : pl < M.length := by rw [hMl.out]; omega
            have hpn2 : pl < n := by omega
            have hsw := hid (swapL_set htM hplM)
            have hpiv : Hid (rN m (j + 1) = (out (pv (swapL M t pl) pl j) pl j n, P ++ [j], (if t - pl = 0 then f else - f) * ent (swapL M t pl) pl j)) := hid (by
              have e1 : pl + (t - pl) = t := by omega
              have := rN_piv hsh'.out hst.out hpl.out (a := t - pl) (by rw [e1]; exact hzz.out) (by omega) (by rw [e1, hx'.out]; exact hx0.out)
              rw [e1] at this; exact this)
            have hM1s := hid (hM.out.swap htt hpn2)
            have hB1s := hid (hBM.out.1.swap hM.out htt hpn2)
            have hp1 : Hid (ent (swapL M t pl) pl j ≠ 0) := hid (by rw [ent_swap hM.out htt hpn2, if_pos rfl, hx'.out]; exact hx0.out)
            have hfB := hid hBM.out.2
            clear hs0 hne hxB hx0 hei hcl1
            go_cut [] from 14 to 122 (fun wx => ∃ f1, Hid (f1 = if t - pl = 0 then f else - f) ∧ RS X1 w b fb base 33 31 3 wx oo co po pc (swapL M t pl) P f1)
            case first =>
              by_cases htp : t = pl
              · have hne2 : ((t : Int) != (pl : Int)) = false := bneF (by omega)
                have hRs : RS X1 w b fb base 33 31 3 w5 oo co po pc (swapL M t pl) P f := by rw [htp, swapL_self M pl hplM]; exact hR5
                have hff : Hid (f = if t - pl = 0 then f else - f) := hid (if_pos (by omega)).symm
                clear htp hR5
                go_wp2_with fail
                go_meet
                case rel => exact ⟨f, hff, hRs⟩
              · have hne2 : ((t : Int) != (pl : Int)) = true := bneT (by omega)
                have hff : Hid (- f = if t - pl = 0 then f else - f) := hid (if_neg (by omega)).symm
                obtain ⟨ap, cp, y1, fy1, hclp, hqp⟩ := hR5.row pl hplM
                obtain ⟨ax, cx, y2, fy2, hclx, hqx⟩ := hR5.row t htM
                obtain ⟨hO1, hE1⟩ := hR5.rows.set1 tyRats RC.elem SlV.one t htM (.slice ap M[pl].length cp) M[pl] ⟨ap, cp, rfl, hclp, hqp⟩
                obtain ⟨u3, k3, f3, hu3⟩ := hO1.cell SlV.one pl (by simpa using hplM)
                obtain ⟨hO2, hE2⟩ := hO1.set1 tyRats RC.elem SlV.one pl (by simpa using hplM) (.slice ax M[t].length cx) M[t] ⟨ax, cx, rfl, hclx, hqx.mono QC.mono (mk_mono hE1 fun k hk => un_right hk)⟩
                have hE6 := (hE1.trans hE2).drew
                have hO2 := hO2.ext0 RC.elem (ExtX.refl (Y := noY) _).drew
                rw [hsw.out] at hO2
                have hR6 := hR5.setRows hE6 hO2
                have i1 : ∀ W, (Instr.indexAt 23 (.slice oo n co) (.int .i64 (t : Int))).run Tryz.prog W = .ok (.pointer (some (adr oo t))) W := run_ix1 slRats oo n co .i64 t hhO (by omega) rfl
                have i2 : ∀ W, (Instr.indexAt 23 (.slice oo n co) (.int .i64 (pl : Int))).run Tryz.prog W = .ok (.pointer (some (adr oo pl))) W := run_ix1 slRats oo n co .i64 pl hhO (by omega) rfl
                clear htp hu3 hO1 hO2 hE1 hE2 hR5 hqp hqx
                go_wp2_with fail
                go_region
                obtain ⟨w6, hw6⟩ : ∃ w6, ((w5.setCell (adr oo t) (.slice ap M[pl].length cp)).setCell (adr oo pl) (.slice ax M[t].length cx)).drew = w6 := ⟨_, rfl⟩
                rw [hw6] at hR6 ⊢
                obtain ⟨sf, af, nf, cf, df, kf, ef, bF, hqF⟩ := hR6.fac
                have z0 := bF.cell 0 rfl
                have z1 := bF.cell 1 rfl
                have z2 := bF.cell 2 rfl
                have hZ6 := hR6.hz
                clear y1 y2 fy1 fy2 k3 f3 i1 i2 hw6 hE6
                go_wp2_with fail
                refine (rqneg (hidZ X1 fb po oo) w6 _ f hZ6 (hqF.qv (by have := hfB.out; have := hB6'.out; omega))).mono ?_
                rintro e w7 ⟨hE7, u7, rfl, hu7⟩
                obtain ⟨s7, a7, n7, c7, d7, k7, e7, rfl⟩ := hu7.shape
                have bF7 := bF.ext0 hE7
                have hR7 := hR6.ext0 hE7
                clear z0 z1 z2 bF
                go_wp2_with ((with_reducible show wpList _ _ _ (⟨_, .store _ _ _, _, _, _, _⟩ :: _) _ _); refine st_storeBox stRat rfl rfl bF7 rfl rfl (one3 _ _ _ _ _ _ _) ?_; intro w8 r1 r2)
                have hR8 := hR7.setFac r2 r1 (QC.mono _ _ _ _ (mk_mono r2 fun k hk => un_left (un_left (un_right hk))) hu7)
                go_meet
                case rel => exact ⟨- f, hff, hR8⟩
            case rest =>
              obtain ⟨f1, hf1, hR1⟩ := hcut
              rw [← hf1.out] at hpiv
              have hf1B : Hid (hq f1 ≤ B) := hid (by rw [hf1.out]; split; exact hfB.out; rw [hq_neg]; exact hfB.out)
              obtain ⟨w6, hw6⟩ : ∃ w6, w6 = wc := ⟨_, rfl⟩
              subst hw6
              obtain ⟨M1, hM1e⟩ : ∃ M1, swapL M t pl = M1 := ⟨_, rfl⟩
              rw [hM1e] at hpiv hM1s hB1s hp1 hR1
              have hM1l : Hid (M1.length = n) := hid hM1s.out.1
              have hpM1 : pl < M1.length := by rw [hM1l.out]; exact hpn2
              have hrl1 : Hid (M1[pl].length = c) := hid (hM1s.out.2 _ (List.getElem_mem _))
              have hjp : j < M1[pl].length := by rw [hrl1.out]; exact hlj
              have hei := hid (ent_at hpM1 hjp)
              have hxB := hid (hB1s.out pl j)
              have hpe : Hid (M1.getD pl [] = M1[pl]) := hid (getD_row' hpM1)
              obtain ⟨y, hy⟩ : ∃ y, ent M1 pl j = y := ⟨_, rfl⟩
              have hpvd : Hid (pv M1 pl j = M1.set pl (M1[pl].map (· * (((1 : Int) : Rat) / y)))) := hid (by unfold pv; rw [hpe.out, hy]; rfl)
              rw [hy] at hei hxB hp1 hpiv
              have hM2s := hid (hM1s.out.pv hpn2 j)
              have hB2s := hid (hB1s.out.pv hM1s.out hpn2 j)
              have hrowB : Hid (BR B M1[pl]) := hid (hb_bm hB1s.out _ (List.getElem_mem _))
              have i1 : ∀ W, (Instr.indexAt 23 (.slice oo n co) (.int .i64 (pl : Int))).run Tryz.prog W = .ok (.pointer (some (adr oo pl))) W := run_ix1 slRats oo n co .i64 pl hhO (by omega) rfl
              have hEd : Ext w6 w6.drew := (ExtX.refl w6).drew
              clear hR5 hM1e hy hx' hsw
              go_upto_region 15 with (fail)
              go_cut [] from 14 to 122 (fun wx => RS X1 w b fb base 33 31 3 wx oo co po pc M1 P (f1 * y))
              case first =>
                obtain ⟨ap, cp, y1, fy1, hclp, hqp⟩ := hR1.row pl hpM1
                obtain ⟨g, o, s5, a5, n5, c5, d5, k5, e5, hg, hXg, hcg, hqg⟩ := hqp.rat QC.shaped j hjp
                obtain ⟨sf, af, nf, cf, df, kf, ef, bF, hqF⟩ := hR1.fac
                rw [hei.out] at hqg
                rw [hrl1.out] at y1 hclp
                have hhp : Hd ap c := by have := hqp.hd; rw [hrl1.out] at this; exact this
                have i2 : ∀ W, (Instr.indexAt 33 (.slice ap c cp) (.int .i64 (j : Int))).run Tryz.prog W = .ok (.pointer (some ⟨g, o, none⟩)) W := by rw [← hg]; exact run_indexAt_adr slRat ap c cp .i64 j hhp (by omega)
                have bFd := bF.ext0 hEd
                have z0 := bFd.cell 0 rfl
                have z1 := bFd.cell 1 rfl
                have z2 := bFd.cell 2 rfl
                obtain ⟨k0, k1, k2⟩ := hcg.out noY w6.drew hEd rfl
                have y1d : w6.drew.cell? (adr oo pl) = some (.slice ap c cp) := y1
                have hRd := hR1.ext0 hEd
                have hZd := hRd.hz
                have hqFv : QV (mk (hidZ X1 fb po oo) w6.drew) (.agg #[.bool sf, .slice af nf cf, .slice df kf ef]) f1 := hqF.qv (by have := hf1B.out; have := hB6'.out; omega)
                have hqgv : QV (mk (hidZ X1 fb po oo) w6.drew) (.agg #[.bool s5, .slice a5 n5 c5, .slice d5 k5 e5]) y := hqg.qv (by have := hxB.out; have := hB6'.out; omega)
                clear hqp hg hcg hR1 y1 fy1 bF
                go_wp2_with fail
                go_region_with ((go_at_call 57; (with_reducible refine (rqmul (hidZ X1 fb po oo) w6.drew _ _ f1 y hZd hqFv hqgv).mono ?_); rintro ee w7 ⟨t1, u7, rfl, hu7⟩; obtain ⟨s7, a7, n7, c7, d7, k7, e7, rfl⟩ := hu7.shape; have bF7 := bFd.ext0 t1; have g0 := bF7.cell 0 rfl; have g1 := bF7.cell 1 rfl; have g2 := bF7.cell 2 rfl; have h0 := bF7.frozen 0; have h1 := bF7.frozen 1; have h2 := bF7.frozen 2))
                all_goals
                  obtain ⟨q1, q2⟩ := bF7.set3 (.bool s7) (.slice a7 n7 c7) (.slice d7 k7 e7)
                  have hR8 := (hRd.ext0 t1).setFac q2 q1 (QC.mono _ _ _ _ (mk_mono q2 fun k hk => un_left (un_left (un_right hk))) hu7)
                  clear z0 z1 z2 k0 k1 k2 y1d g0 g1 g2 h0 h1 h2 i2
                  go_wp2_with fail
                  go_meet
                  case rel => exact hR8
              case rest =>
                have hf2B : Hid (hq (f1 * y) ≤ 2 * B) := hid (by have := hq_mul f1 y; have := hf1B.out; have := hxB.out; omega)
                obtain ⟨f2, hf2⟩ : ∃ f2, f1 * y = f2 := ⟨_, rfl⟩
                rw [hf2] at hf2B hcut hpiv
                clear hR1 hEd hf2
                obtain ⟨w7, hw7⟩ : ∃ w7, w7 = wc := ⟨_, rfl⟩
                subst hw7
                have hR2 := hcut
                have hEd : Ext w7 w7.drew := (ExtX.refl w7).drew
                clear hcut
                go_upto_region 16 with (fail)
                go_cut [] from 14 to 122 (fun wx => RS X1 w b fb base 33 31 3 wx oo co po pc (pv M1 pl j) P f2)
                case first =>
                  obtain ⟨ap, cp, y1, fy1, hclp, hqp⟩ := hR2.row pl hpM1
                  obtain ⟨g, o, s5, a5, n5, c5, d5, k5, e5, hg, hXg, hcg, hqg⟩ := hqp.rat QC.shaped j hjp
                  rw [hei.out] at hqg
                  have hhp : Hd ap c := by have := hqp.hd; rw [hrl1.out] at this; exact this
                  have i2 : ∀ W, (Instr.indexAt 33 (.slice ap c cp) (.int .i64 (j : Int))).run Tryz.prog W = .ok (.pointer (some ⟨g, o, none⟩)) W := by rw [← hg]; exact run_indexAt_adr slRat ap c cp .i64 j hhp (by omega)
                  have hrp : RV (mk (hidZ X1 fb po oo) w7.drew) (.slice ap c cp) M1[pl] := by
                    rw [← hrl1.out]
                    exact ⟨ap, cp, rfl, hclp, hqp.qv fun q hq => Nat.le_trans (hrowB.out q hq) (by have := hB6'.out; omega)⟩
                  rw [hrl1.out] at y1 hclp
                  have hS : Hid (∀ W', Ext w7.drew W' → W'.cell? (adr oo pl) = some (.slice ap c cp) ∧ W'.cell? ⟨g, o, none⟩ = some (.bool s5) ∧ W'.cell? ⟨g, o + 1, none⟩ = some (.slice a5 n5 c5) ∧ W'.cell? ⟨g, o + 2, none⟩ = some (.slice d5 k5 e5)) := hid fun W' h => by
                    obtain ⟨k0, k1, k2⟩ := hcg.out noY W' (hEd.trans h) rfl
                    exact ⟨(hEd.trans h).cell y1, k0, k1, k2⟩
                  obtain ⟨y1d, k0, k1, k2⟩ := hS.out w7.drew (ExtX.refl _)
                  have hRd := hR2.ext0 hEd
                  have hZd := hRd.hz
                  have hqgv : QV (mk (hidZ X1 fb po oo) w7.drew) (.agg #[.bool s5, .slice a5 n5 c5, .slice d5 k5 e5]) y := hqg.qv (by have := hxB.out; have := hB6'.out; omega)
                  have h1q : Hid (hq (((1 : Int) : Rat)) ≤ 68719476736) := hid (by decide +kernel)
                  have hqb : Hid (hq (((1 : Int) : Rat) / y) ≤ 68719476736) := hid (by have h3 := hq_div ((1 : Int) : Rat) y; have h4 : hq (((1 : Int) : Rat)) = 1 := (by decide +kernel); have := hxB.out; have := hB6'.out; have := hq_pos y; omega)
                  have hrl3 : Hid (M1[pl].length ≤ 1000000) := hid (by rw [hrl1.out]; omega)
                  clear hqp hg hcg hR2 y1 fy1
                  go_wp2_with fail
                  refine wp_region_K 17 (fun w' => w'.cell? (adr oo pl) = some (.slice ap c cp) ∧ w'.cell? ⟨g, o, none⟩ = some (.bool s5) ∧ w'.cell? ⟨g, o + 1, none⟩ = some (.slice a5 n5 c5) ∧ w'.cell? ⟨g, o + 2, none⟩ = some (.slice d5 k5 e5)) (by kernel_rfl) (by kernel_rfl) (hS.out _ (ExtX.refl _)) (fun hHeld hOnce => ?_)
                  clear y1d k0 k1 k2
                  refine wpAnyK_take hOnce (i := 0) (oi := ⟨_, _, _, _, _, _⟩) (v := ?_) rfl (by kernel_rfl) (fun _ _ _ h => h) (by assumption) (by rfl) (fun w hSw => ?_) ?_
                  rotate_left
                  · (try dsimp only at hSw)
                    go_simp
                    all_goals with_reducible rfl
                  (try simp only [Act.put, List.setIfInBounds_toArray, List.set_cons_zero, List.set_cons_succ])
                  refine wpAnyK_take hOnce (i := 1) (oi := ⟨_, _, _, _, _, _⟩) (v := ?_) rfl (by kernel_rfl) (fun _ _ _ h => h) (by assumption) (by rfl) (fun w hSw => ?_) ?_
                  rotate_left
                  · (try dsimp only at hSw)
                    go_simp
                    all_goals with_reducible rfl
                  (try simp only [Act.put, List.setIfInBounds_toArray, List.set_cons_zero, List.set_cons_succ])
                  refine wpAnyK_take hOnce (i := 2) (oi := ⟨_, _, _, _, _, _⟩) (v := ?_) rfl (by kernel_rfl) (fun _ _ _ h => h) (by assumption) (by rfl) (fun w hSw => ?_) ?_
                  rotate_left
                  · (try dsimp only at hSw)
                    go_simp
                    all_goals with_reducible rfl
                  (try simp only [Act.put, List.setIfInBounds_toArray, List.set_cons_zero, List.set_cons_succ])
                  refine wpAnyK_take hOnce (i := 3) (oi := ⟨_, _, _, _, _, _⟩) (v := ?_) rfl (by kernel_rfl) (fun _ _ _ h => h) (by assumption) (by rfl) (fun w hSw => ?_) ?_
                  rotate_left
                  · (try dsimp only at hSw)
                    go_simp
                    all_goals with_reducible rfl
                  (try simp only [Act.put, List.setIfInBounds_toArray, List.set_cons_zero, List.set_cons_succ])
                  refine wpAnyK_take hOnce (i := 4) (oi := ⟨_, _, _, _, _, _⟩) (v := ?_) rfl (by kernel_rfl) (fun _ _ _ h => h) (by assumption) (by rfl) (fun w hSw => ?_) ?_
                  rotate_left
                  · (try dsimp only at hSw)
                    go_simp
                    all_goals with_reducible rfl
                  (try simp only [Act.put, List.setIfInBounds_toArray, List.set_cons_zero, List.set_cons_succ])
                  refine wpAnyK_take hOnce (i := 5) (oi := ⟨_, _, _, _, _, _⟩) (v := ?_) rfl (by kernel_rfl) (fun _ _ _ h => h) (by assumption) (by rfl) (fun w hSw => ?_) ?_
                  rotate_left
                  · (try dsimp only at hSw)
                    go_simp
                    all_goals with_reducible rfl
                  (try simp only [Act.put, List.setIfInBounds_toArray, List.set_cons_zero, List.set_cons_succ])
                  refine wpAnyK_take hOnce (i := 7) (oi := ⟨_, _, _, _, _, _⟩) (v := ?_) rfl (by kernel_rfl) (fun _ _ _ h => h) (by assumption) (by rfl) (fun w hSw => ?_) ?_
                  rotate_left
                  · (try dsimp only at hSw)
                    go_simp
                    all_goals with_reducible rfl
                  (try simp only [Act.put, List.setIfInBounds_toArray, List.set_cons_zero, List.set_cons_succ])
                  refine wpAnyK_take hOnce (i := 8) (oi := ⟨_, _, _, _, _, _⟩) (v := ?_) rfl (by kernel_rfl) (fun _ _ _ h => h) (by assumption) (by rfl) (fun w hSw => ?_) ?_
                  rotate_left
                  · (try dsimp only at hSw)
                    go_simp
                    all_goals with_reducible rfl
                  (try simp only [Act.put, List.setIfInBounds_toArray, List.set_cons_zero, List.set_cons_succ])
                  refine wpAnyK_take hOnce (i := 9) (oi := ⟨_, _, _, _, _, _⟩) (v := ?_) rfl (by kernel_rfl) (fun _ _ _ h => h) (by assumption) (by rfl) (fun w hSw => ?_) ?_
                  rotate_left
                  · (try dsimp only at hSw)
                    go_simp
                    all_goals with_reducible rfl
                  (try simp only [Act.put, List.setIfInBounds_toArray, List.set_cons_zero, List.set_cons_succ])
                  refine wpAnyK_take hOnce (i := 10) (oi := ⟨_, _, _, _, _, _⟩) (v := ?_) rfl (by kernel_rfl) (fun _ _ _ h => h) (by assumption) (by rfl) (fun w hSw => ?_) ?_
                  rotate_left
                  · (try dsimp only at hSw)
                    go_simp
                    all_goals with_reducible rfl
                  (try simp only [Act.put, List.setIfInBounds_toArray, List.set_cons_zero, List.set_cons_succ])
                  refine wpAnyK_take hOnce (i := 11) (oi := ⟨_, _, _, _, _, _⟩) (v := ?_) rfl (by kernel_rfl) (fun _ _ _ h => h) (by assumption) (by rfl) (fun w hSw => ?_) ?_
                  rotate_left
                  · (try dsimp only at hSw)
                    go_simp
                    all_goals with_reducible rfl
                  (try simp only [Act.put, List.setIfInBounds_toArray, List.set_cons_zero, List.set_cons_succ])
                  refine wpAnyK_take hOnce (i := 12) (oi := ⟨_, _, _, _, _, _⟩) (v := ?_) rfl (by kernel_rfl) (fun _ _ _ h => h) (by assumption) (by rfl) (fun w hSw => ?_) ?_
                  rotate_left
                  · (try dsimp only at hSw)
                    go_simp
                    all_goals with_reducible rfl
                  (try simp only [Act.put, List.setIfInBounds_toArray, List.set_cons_zero, List.set_cons_succ])
                  refine wpAnyK_take hOnce (i := 13) (oi := ⟨_, _, _, _, _, _⟩) (v := ?_) rfl (by kernel_rfl) (fun _ _ _ h => h) (by assumption) (by rfl) (fun w hSw => ?_) ?_
                  rotate_left
                  · (try dsimp only at hSw)
                    go_simp
                    all_goals with_reducible rfl
                  (try simp only [Act.put, List.setIfInBounds_toArray, List.set_cons_zero, List.set_cons_succ])
                  refine wpAnyK_step (i := 6) (o := ⟨_, _, _, _, _, _⟩) (by kernel_rfl) rfl (fun K hK => ?_)
                  go_simp
                  (go_at_call 61; (with_reducible refine (rqfrom (hidZ X1 fb po oo) w7.drew 1 hZd (by decide) (by decide)).mono ?_); rintro ee w8 ⟨t1, u8, rfl, hu8⟩)
                  refine hK.out _ _ (hS.out w8 t1) (fun hHeld => ?_)
                  clear hK K
                  (try simp only [Act.put, List.setIfInBounds_toArray, List.set_cons_zero, List.set_cons_succ])
                  obtain ⟨s8, a8, n8, c8, d8, k8, e8, rfl⟩ := hu8.shape
                  have hX8 := hZd.ext t1
                  have hx8 := mkx QV.mono hqgv t1
                  have hu8v := hu8.qv h1q.out
                  refine wpAnyK_step (i := 14) (o := ⟨_, _, _, _, _, _⟩) (by kernel_rfl) rfl (fun K hK => ?_)
                  go_simp
                  (go_at_call 146; (with_reducible refine (rqquo (hidZ X1 fb po oo) w8 _ _ _ y hX8 hu8v hx8 hp1.out).mono ?_); rintro ee w9 ⟨t2, u9, rfl, hu9⟩)
                  refine hK.out _ _ (hS.out w9 (t1.trans t2)) (fun hHeld => ?_)
                  clear hK K
                  (try simp only [Act.put, List.setIfInBounds_toArray, List.set_cons_zero, List.set_cons_succ])
                  obtain ⟨s9, a9, n9, c9, d9, k9, e9, rfl⟩ := hu9.shape
                  have t12 := t1.trans t2
                  have hX9 := hZd.ext t12
                  have hr9 := mkx RV.mono hrp t12
                  have hu9v := hu9.qv hqb.out
                  refine wpAnyK_step (i := 15) (o := ⟨_, _, _, _, _, _⟩) (by kernel_rfl) rfl (fun K hK => ?_)
                  go_simp
                  (go_at_call 20; (with_reducible refine (rtimes (hidZ X1 fb po oo) w9 _ _ _ _ hX9 hr9 hu9v hrl3.out).mono ?_); rintro ee w10 ⟨t3, u10, rfl, hu10⟩)
                  refine hK.out _ _ (hS.out w10 (t12.trans t3)) (fun hHeld => ?_)
                  clear hK K
                  (try simp only [Act.put, List.setIfInBounds_toArray, List.set_cons_zero, List.set_cons_succ])
                  obtain ⟨a10, c10, rfl, hcl10, hs10⟩ := hu10
                  have t13 := t12.trans t3
                  have hR10 := hRd.ext0 t13
                  obtain ⟨_, _, p0, fz, _, _⟩ := hR10.row pl hpM1
                  refine wpAnyK_take hOnce (i := 16) (oi := ⟨_, _, _, _, _, _⟩) (v := ?_) rfl (by kernel_rfl) (fun _ _ _ h => h) (by assumption) (by rfl) (fun w hSw => ?_) ?_
                  rotate_left
                  · (try dsimp only at hSw)
                    go_simp
                    all_goals with_reducible rfl
                  (try simp only [Act.put, List.setIfInBounds_toArray, List.set_cons_zero, List.set_cons_succ])
                  refine wpAnyK_last (i := 17) (o := ⟨_, _, _, _, _, _⟩) (by kernel_rfl) rfl (by decide) (by kernel_rfl) (fun K hK => ?_)
                  go_simp
                  refine hK.out _ _ ?_
                  clear hK K
                  obtain ⟨hO11, hE11⟩ := hR10.rows.set1 tyRats RC.elem SlV.one pl hpM1 (.slice a10 M1[pl].length c10) (M1[pl].map (· * (((1 : Int) : Rat) / y))) ⟨a10, c10, by rw [List.length_map], hcl10, hs10⟩
                  have hR11 := hR10.setRows hE11 hO11
                  have hR12 := hR11
                  rw [← hpvd.out] at hR12
                  clear p0 fz i2 hO11 hE11 hR11 hHeld hOnce
                  go_wp2_with fail
                  go_meet
                  case rel => exact hR12
                case rest =>
                  have hR3 := hcut
                  clear hcut hR2 hEd i1
                  obtain ⟨w8, hw8⟩ : ∃ w8, w8 = wc := ⟨_, rfl⟩
                  subst hw8
                  obtain ⟨M2, hM2e⟩ : ∃ M2, pv M1 pl j = M2 := ⟨_, rfl⟩
                  rw [hM2e] at hR3 hpiv hM2s hB2s
                  have hM2l : Hid (M2.length = n) := hid hM2s.out.1
                  have hR4 : RS X1 w b fb base 33 31 3 w8 oo co po pc (out M2 pl j 0) P f2 := by rw [out_zero]; exact hR3
                  have hbm2 := hid (hb_bm hB2s.out)
                  have hb0 : Hid (∀ wx, OL RC 1 (un (hidF X1 fb) po) base 33 wx oo co (out M2 pl j n) → base ≤ wx.heap.size) := hid fun wx h => by
                    obtain ⟨b0, o0, hb0⟩ := hhO (by omega)
                    have := h.block (k := b0) (by rw [hb0]; simp [ob])
                    omega
                  have i1 : ∀ W, (Instr.indexAt 23 (.slice oo n co) (.int .i64 (pl : Int))).run Tryz.prog W = .ok (.pointer (some (adr oo pl))) W := run_ix1 slRats oo n co .i64 pl hhO (by omega) rfl
                  clear hM2e hR3 hjp hrl1 hei hxB hpvd hrowB hp1
                  go_wp2_with fail
                  go_loopw [10] (fun a wx => ∃ (i : Nat), a = .int .i64 i ∧ i ≤ n ∧ RS X1 w b fb base 33 31 3 wx oo co po pc (out M2 pl j i) P f2) (fun a _ => n - (intOf a).toNat)
                  case atStart => exact ⟨0, rfl, Nat.zero_le _, hR4⟩
                  case round =>
                    clear hR4
                    obtain ⟨i, rfl, hi, hR⟩ := hrel
                    by_cases hlt : i < n
                    · by_cases hip : i = pl
                      · have hne3 : ((i : Int) != (pl : Int)) = false := bneF (by omega)
                        have hRn : RS X1 w b fb base 33 31 3 wr oo co po pc (out M2 pl j (i + 1)) P f2 := by subst hip; rw [← out_skip]; exact hR
                        clear hip hR
                        go_wp2_with fail
                        go_roundw
                        case rel => exact ⟨i + 1, by go_num, by omega, hRn⟩
                        case measure => simp [intOf]; omega
                      · have hne3 : ((i : Int) != (pl : Int)) = true := bneT (by omega)
                        have hiM : i < M2.length := by rw [hM2l.out]; exact hlt
                        have hpM : pl < M2.length := by rw [hM2l.out]; exact hpn2
                        have hiO : i < (out M2 pl j i).length := by rw [out_len]; exact hiM
                        have hpO : pl < (out M2 pl j i).length := by rw [out_len]; exact hpM
                        have hgi : (out M2 pl j i)[i] = M2[i] := by rw [out_get hiO hiM, if_neg (by omega)]
                        have hgp : (out M2 pl j i)[pl] = M2[pl] := by rw [out_get hpO hpM, if_neg (by omega)]
                        have hset := hid (out_set (m := M2) (t := pl) (col := j) hiM hip)
                        rw [getD_row' hpM] at hset
                        obtain ⟨ai, ci, y1, fy1, hcli, hqi⟩ := hR.row i hiO
                        obtain ⟨ap, cp, y2, fy2, hclp, hqp⟩ := hR.row pl hpO
                        rw [hgi] at y1 hcli hqi
                        rw [hgp] at y2 hclp hqp
                        have hrli : Hid (M2[i].length = c) := hid (hM2s.out.2 _ (List.getElem_mem _))
                        have hrlp : Hid (M2[pl].length = c) := hid (hM2s.out.2 _ (List.getElem_mem _))
                        have hBi := hid (hbm2.out M2[i] (List.getElem_mem _))
                        have hBp := hid (hbm2.out M2[pl] (List.getElem_mem _))
                        have hji : j < M2[i].length := by rw [hrli.out]; exact hlj
                        obtain ⟨g, o, s5, a5, n5, c5, d5, k5, e5, hg, hXg, hcg, hqg⟩ := hqi.rat QC.shaped j hji
                        have hvv : M2[i].getD j 0 = M2[i][j] := by rw [List.getD_eq_getElem?_getD, List.getElem?_eq_getElem hji]; rfl
                        rw [hvv] at hset
                        have hvB := hid (hBi.out M2[i][j] (List.getElem_mem _))
                        obtain ⟨v, hv⟩ : ∃ v, M2[i][j] = v := ⟨_, rfl⟩
                        rw [hv] at hset hqg hvB
                        clear hv hvv hgi hgp
                        obtain ⟨row, hrow⟩ : ∃ row, M2[i] = row := ⟨_, rfl⟩
                        rw [hrow] at hset hqi y1 hcli hrli hBi
                        obtain ⟨piv, hpv⟩ : ∃ piv, M2[pl] = piv := ⟨_, rfl⟩
                        rw [hpv] at hset hqp y2 hclp hrlp hBp
                        have hhi : Hd ai c := by have := hqi.hd; rw [hrli.out] at this; exact this
                        have hEd : Ext wr wr.drew := (ExtX.refl wr).drew
                        have i2 : ∀ W, (Instr.indexAt 33 (.slice ai c ci) (.int .i64 (j : Int))).run Tryz.prog W = .ok (.pointer (some ⟨g, o, none⟩)) W := by rw [← hg]; exact run_indexAt_adr slRat ai c ci .i64 j hhi (by omega)
                        have i3 : ∀ W, (Instr.indexAt 23 (.slice oo n co) (.int .i64 (i : Int))).run Tryz.prog W = .ok (.pointer (some (adr oo i))) W := run_ix1 slRats oo n co .i64 i hhO (by omega) rfl
                        have hri : RV (mk (hidZ X1 fb po oo) wr.drew) (.slice ai c ci) row := by
                          rw [← hrli.out]
                          exact ⟨ai, ci, rfl, hcli, hqi.qv fun q hq => Nat.le_trans (hBi.out q hq) (by have := hB6'.out; omega)⟩
                        have hrp : RV (mk (hidZ X1 fb po oo) wr.drew) (.slice ap c cp) piv := by
                          rw [← hrlp.out]
                          exact ⟨ap, cp, rfl, hclp, hqp.qv fun q hq => Nat.le_trans (hBp.out q hq) (by have := hB6'.out; omega)⟩
                        rw [hrli.out] at y1
                        rw [hrlp.out] at y2
                        have hS : Hid (∀ W', Ext wr.drew W' → W'.cell? (adr oo i) = some (.slice ai c ci) ∧ W'.cell? (adr oo pl) = some (.slice ap c cp) ∧ W'.cell? ⟨g, o, none⟩ = some (.bool s5) ∧ W'.cell? ⟨g, o + 1, none⟩ = some (.slice a5 n5 c5) ∧ W'.cell? ⟨g, o + 2, none⟩ = some (.slice d5 k5 e5)) := hid fun W' h => by
                          obtain ⟨k0, k1, k2⟩ := hcg.out noY W' (hEd.trans h) rfl
                          exact ⟨(hEd.trans h).cell y1, (hEd.trans h).cell y2, k0, k1, k2⟩
                        obtain ⟨y1d, y2d, k0, k1, k2⟩ := hS.out wr.drew (ExtX.refl _)
                        have hRd := hR.ext0 hEd
                        have hZd := hRd.hz
                        have hqgv : QV (mk (hidZ X1 fb po oo) wr.drew) (.agg #[.bool s5, .slice a5 n5 c5, .slice d5 k5 e5]) v := hqg.qv (by have := hvB.out; have := hB6'.out; omega)
                        have hnb : Hid (hq (-v) ≤ 68719476736) := hid (by rw [hq_neg]; have := hvB.out; have := hB6'.out; omega)
                        have hprod : Hid (BR 68719476736 (piv.map (· * -v))) := hid fun q hq => by
                          obtain ⟨x, hx, rfl⟩ := List.mem_map.1 hq
                          have h1 := hBp.out x hx
                          have h2 := hq_mul x (-v)
                          rw [hq_neg] at h2
                          have := hvB.out; have := hB6'.out; omega
                        have hl1 : Hid (piv.length ≤ 1000000) := hid (by rw [hrlp.out]; omega)
                        have hl2 : Hid (row.length ≤ 1000000) := hid (by rw [hrli.out]; omega)
                        have hl3 : Hid ((piv.map (· * -v)).length = row.length) := hid (by rw [List.length_map, hrlp.out, hrli.out])
                        have hiO' := hid hiO
                        obtain ⟨PR, hPR⟩ : ∃ PR, piv.map (· * -v) = PR := ⟨_, rfl⟩
                        have hPR' := hid hPR
                        rw [hPR] at hset hprod hl3
                        obtain ⟨NR, hNR⟩ : ∃ NR, List.zipWith (· + ·) row PR = NR := ⟨_, rfl⟩
                        have hNR' := hid hNR
                        rw [hNR] at hset
                        clear hqi hqp hg hcg hR y1 fy1 y2 fy2 hrow hpv hip hiM hpM hpO hqg hiO hji hcli hclp hPR hNR
                        go_wp2_with fail
                        refine wp_region_K 21 (fun w' => w'.cell? (adr oo i) = some (.slice ai c ci) ∧ w'.cell? (adr oo pl) = some (.slice ap c cp) ∧ w'.cell? ⟨g, o, none⟩ = some (.bool s5) ∧ w'.cell? ⟨g, o + 1, none⟩ = some (.slice a5 n5 c5) ∧ w'.cell? ⟨g, o + 2, none⟩ = some (.slice d5 k5 e5)) (by kernel_rfl) (by kernel_rfl) (hS.out _ (ExtX.refl _)) (fun hHeld hOnce => ?_)
                        clear y1d y2d k0 k1 k2
                        refine wpAnyK_take hOnce (i := 0) (oi := ⟨_, _, _, _, _, _⟩) (v := ?_) rfl (by kernel_rfl) (fun _ _ _ h => h) (by assumption) (by rfl) (fun w hSw => ?_) ?_
                        rotate_left
                        · (try dsimp only at hSw)
                          go_simp
                          all_goals with_reducible rfl
                        (try simp only [Act.put, List.setIfInBounds_toArray, List.set_cons_zero, List.set_cons_succ])
                        refine wpAnyK_take hOnce (i := 1) (oi := ⟨_, _, _, _, _, _⟩) (v := ?_) rfl (by kernel_rfl) (fun _ _ _ h => h) (by assumption) (by rfl) (fun w hSw => ?_) ?_
                        rotate_left
                        · (try dsimp only at hSw)
                          go_simp
                          all_goals with_reducible rfl
                        (try simp only [Act.put, List.setIfInBounds_toArray, List.set_cons_zero, List.set_cons_succ])
                        refine wpAnyK_take hOnce (i := 2) (oi := ⟨_, _, _, _, _, _⟩) (v := ?_) rfl (by kernel_rfl) (fun _ _ _ h => h) (by assumption) (by rfl) (fun w hSw => ?_) ?_
                        rotate_left
                        · (try dsimp only at hSw)
                          go_simp
                          all_goals with_reducible rfl
                        (try simp only [Act.put, List.setIfInBounds_toArray, List.set_cons_zero, List.set_cons_succ])
                        refine wpAnyK_take hOnce (i := 3) (oi := ⟨_, _, _, _, _, _⟩) (v := ?_) rfl (by kernel_rfl) (fun _ _ _ h => h) (by assumption) (by rfl) (fun w hSw => ?_) ?_
                        rotate_left
                        · (try dsimp only at hSw)
                          go_simp
                          all_goals with_reducible rfl
                        (try simp only [Act.put, List.setIfInBounds_toArray, List.set_cons_zero, List.set_cons_succ])
                        refine wpAnyK_take hOnce (i := 4) (oi := ⟨_, _, _, _, _, _⟩) (v := ?_) rfl (by kernel_rfl) (fun _ _ _ h => h) (by assumption) (by rfl) (fun w hSw => ?_) ?_
                        rotate_left
                        · (try dsimp only at hSw)
                          go_simp
                          all_goals with_reducible rfl
                        (try simp only [Act.put, List.setIfInBounds_toArray, List.set_cons_zero, List.set_cons_succ])
                        refine wpAnyK_take hOnce (i := 5) (oi := ⟨_, _, _, _, _, _⟩) (v := ?_) rfl (by kernel_rfl) (fun _ _ _ h => h) (by assumption) (by rfl) (fun w hSw => ?_) ?_
                        rotate_left
                        · (try dsimp only at hSw)
                          go_simp
                          all_goals with_reducible rfl
                        (try simp only [Act.put, List.setIfInBounds_toArray, List.set_cons_zero, List.set_cons_succ])
                        refine wpAnyK_take hOnce (i := 6) (oi := ⟨_, _, _, _, _, _⟩) (v := ?_) rfl (by kernel_rfl) (fun _ _ _ h => h) (by assumption) (by rfl) (fun w hSw => ?_) ?_
                        rotate_left
                        · (try dsimp only at hSw)
                          go_simp
                          all_goals with_reducible rfl
                        (try simp only [Act.put, List.setIfInBounds_toArray, List.set_cons_zero, List.set_cons_succ])
                        refine wpAnyK_take hOnce (i := 7) (oi := ⟨_, _, _, _, _, _⟩) (v := ?_) rfl (by kernel_rfl) (fun _ _ _ h => h) (by assumption) (by rfl) (fun w hSw => ?_) ?_
                        rotate_left
                        · (try dsimp only at hSw)
                          go_simp
                          all_goals with_reducible rfl
                        (try simp only [Act.put, List.setIfInBounds_toArray, List.set_cons_zero, List.set_cons_succ])
                        refine wpAnyK_take hOnce (i := 8) (oi := ⟨_, _, _, _, _, _⟩) (v := ?_) rfl (by kernel_rfl) (fun _ _ _ h => h) (by assumption) (by rfl) (fun w hSw => ?_) ?_
                        rotate_left
                        · (try dsimp only at hSw)
                          go_simp
                          all_goals with_reducible rfl
                        (try simp only [Act.put, List.setIfInBounds_toArray, List.set_cons_zero, List.set_cons_succ])
                        refine wpAnyK_take hOnce (i := 9) (oi := ⟨_, _, _, _, _, _⟩) (v := ?_) rfl (by kernel_rfl) (fun _ _ _ h => h) (by assumption) (by rfl) (fun w hSw => ?_) ?_
                        rotate_left
                        · (try dsimp only at hSw)
                          go_simp
                          all_goals with_reducible rfl
                        (try simp only [Act.put, List.setIfInBounds_toArray, List.set_cons_zero, List.set_cons_succ])
                        refine wpAnyK_take hOnce (i := 10) (oi := ⟨_, _, _, _, _, _⟩) (v := ?_) rfl (by kernel_rfl) (fun _ _ _ h => h) (by assumption) (by rfl) (fun w hSw => ?_) ?_
                        rotate_left
                        · (try dsimp only at hSw)
                          go_simp
                          all_goals with_reducible rfl
                        (try simp only [Act.put, List.setIfInBounds_toArray, List.set_cons_zero, List.set_cons_succ])
                        refine wpAnyK_take hOnce (i := 11) (oi := ⟨_, _, _, _, _, _⟩) (v := ?_) rfl (by kernel_rfl) (fun _ _ _ h => h) (by assumption) (by rfl) (fun w hSw => ?_) ?_
                        rotate_left
                        · (try dsimp only at hSw)
                          go_simp
                          all_goals with_reducible rfl
                        (try simp only [Act.put, List.setIfInBounds_toArray, List.set_cons_zero, List.set_cons_succ])
                        refine wpAnyK_take hOnce (i := 12) (oi := ⟨_, _, _, _, _, _⟩) (v := ?_) rfl (by kernel_rfl) (fun _ _ _ h => h) (by assumption) (by rfl) (fun w hSw => ?_) ?_
                        rotate_left
                        · (try dsimp only at hSw)
                          go_simp
                          all_goals with_reducible rfl
                        (try simp only [Act.put, List.setIfInBounds_toArray, List.set_cons_zero, List.set_cons_succ])
                        refine wpAnyK_take hOnce (i := 13) (oi := ⟨_, _, _, _, _, _⟩) (v := ?_) rfl (by kernel_rfl) (fun _ _ _ h => h) (by assumption) (by rfl) (fun w hSw => ?_) ?_
                        rotate_left
                        · (try dsimp only at hSw)
                          go_simp
                          all_goals with_reducible rfl
                        (try simp only [Act.put, List.setIfInBounds_toArray, List.set_cons_zero, List.set_cons_succ])
                        refine wpAnyK_take hOnce (i := 14) (oi := ⟨_, _, _, _, _, _⟩) (v := ?_) rfl (by kernel_rfl) (fun _ _ _ h => h) (by assumption) (by rfl) (fun w hSw => ?_) ?_
                        rotate_left
                        · (try dsimp only at hSw)
                          go_simp
                          all_goals with_reducible rfl
                        (try simp only [Act.put, List.setIfInBounds_toArray, List.set_cons_zero, List.set_cons_succ])
                        refine wpAnyK_take hOnce (i := 15) (oi := ⟨_, _, _, _, _, _⟩) (v := ?_) rfl (by kernel_rfl) (fun _ _ _ h => h) (by assumption) (by rfl) (fun w hSw => ?_) ?_
                        rotate_left
                        · (try dsimp only at hSw)
                          go_simp
                          all_goals with_reducible rfl
                        (try simp only [Act.put, List.setIfInBounds_toArray, List.set_cons_zero, List.set_cons_succ])
                        refine wpAnyK_take hOnce (i := 16) (oi := ⟨_, _, _, _, _, _⟩) (v := ?_) rfl (by kernel_rfl) (fun _ _ _ h => h) (by assumption) (by rfl) (fun w hSw => ?_) ?_
                        rotate_left
                        · (try dsimp only at hSw)
                          go_simp
                          all_goals with_reducible rfl
                        (try simp only [Act.put, List.setIfInBounds_toArray, List.set_cons_zero, List.set_cons_succ])
                        refine wpAnyK_step (i := 17) (o := ⟨_, _, _, _, _, _⟩) (by kernel_rfl) rfl (fun K hK => ?_)
                        go_simp
                        (go_at_call 112; (with_reducible refine (rqneg (hidZ X1 fb po oo) wr.drew _ v hZd hqgv).mono ?_); rintro ee w9 ⟨t1, u9, rfl, hu9⟩)
                        refine hK.out _ _ (hS.out w9 t1) (fun hHeld => ?_)
                        clear hK K
                        (try simp only [Act.put, List.setIfInBounds_toArray, List.set_cons_zero, List.set_cons_succ])
                        obtain ⟨s9, a9, n9, c9, d9, k9, e9, rfl⟩ := hu9.shape
                        have hX9 := hZd.ext t1
                        have hr9 := mkx RV.mono hrp t1
                        have hu9v := hu9.qv hnb.out
                        refine wpAnyK_step (i := 18) (o := ⟨_, _, _, _, _, _⟩) (by kernel_rfl) rfl (fun K hK => ?_)
                        go_simp
                        (go_at_call 20; (with_reducible refine (rtimes (hidZ X1 fb po oo) w9 _ _ piv (-v) hX9 hr9 hu9v hl1.out).mono ?_); rintro ee w10 ⟨t2, u10, rfl, hu10⟩)
                        refine hK.out _ _ (hS.out w10 (t1.trans t2)) (fun hHeld => ?_)
                        clear hK K
                        (try simp only [Act.put, List.setIfInBounds_toArray, List.set_cons_zero, List.set_cons_succ])
                        rw [hPR'.out] at hu10
                        have hu10v := hu10.rv hprod.out
                        obtain ⟨a10, c10, rfl, hcl10, hs10⟩ := hu10
                        have t12 := t1.trans t2
                        have hX10 := hZd.ext t12
                        have hr10 := mkx RV.mono hri t12
                        refine wpAnyK_step (i := 19) (o := ⟨_, _, _, _, _, _⟩) (by kernel_rfl) rfl (fun K hK => ?_)
                        go_simp
                        (go_at_call 80; (with_reducible refine (rplus (hidZ X1 fb po oo) w10 _ _ row _ hX10 hr10 hu10v hl2.out hl3.out).mono ?_); rintro ee w11 ⟨t3, u11, rfl, hu11⟩)
                        refine hK.out _ _ (hS.out w11 (t12.trans t3)) (fun hHeld => ?_)
                        clear hK K
                        (try simp only [Act.put, List.setIfInBounds_toArray, List.set_cons_zero, List.set_cons_succ])
                        rw [hNR'.out] at hu11
                        obtain ⟨a11, c11, rfl, hcl11, hs11⟩ := hu11
                        have hR11 := hRd.ext0 (t12.trans t3)
                        obtain ⟨_, _, p0, fz, _, _⟩ := hR11.row i hiO'.out
                        refine wpAnyK_take hOnce (i := 20) (oi := ⟨_, _, _, _, _, _⟩) (v := ?_) rfl (by kernel_rfl) (fun _ _ _ h => h) (by assumption) (by rfl) (fun w hSw => ?_) ?_
                        rotate_left
                        · (try dsimp only at hSw)
                          go_simp
                          all_goals with_reducible rfl
                        (try simp only [Act.put, List.setIfInBounds_toArray, List.set_cons_zero, List.set_cons_succ])
                        refine wpAnyK_last (i := 21) (o := ⟨_, _, _, _, _, _⟩) (by kernel_rfl) rfl (by decide) (by kernel_rfl) (fun K hK => ?_)
                        go_simp
                        refine hK.out _ _ ?_
                        clear hK K
                        obtain ⟨hO12, hE12⟩ := hR11.rows.set1 tyRats RC.elem SlV.one i hiO'.out (.slice a11 NR.length c11) NR ⟨a11, c11, rfl, hcl11, hs11⟩
                        have hR12 := hR11.setRows hE12 hO12
                        rw [hset.out] at hR12
                        clear p0 fz i2 i3 hO12 hE12 hR11 hHeld hOnce
                        go_wp2_with fail
                        go_roundw
                        case rel => exact ⟨i + 1, by go_num, by omega, hR12⟩
                        case measure => simp [intOf]; omega
                    · have hin : i = n := by omega
                      subst hin
                      have hbase := hb0.out wr hR.rows
                      have hXz : ∀ k, un (hidF X1 fb) oo k = true → k < wr.heap.size := fun k hk => hR.hz k (by
                        by_cases h : hidF X1 fb k = true
                        · exact un_left (un_left h)
                        · exact un_right (by simpa [un, h] using hk))
                      have hP := hR.piv
                      have hpl2 : Hid ((P ++ [j]).length = pl + 1) := hid (by rw [List.length_append, hpl.out]; rfl)
                      clear i1 hb0
                      go_wp2_with (at_builtin; refine st_append1n (l := P) slInt rfl (NatIn.elem .i64) hbase hXz pl hpl.out rfl rfl hP (.int .i64 (j : Int)) j rfl rfl (by omega) (by omega) ?_; intro po2 pc2 w10 hP6 hE7 hor)
                      have hR9 := hR.push hE7 hP6 hor
                      go_roundg (c - (j + 1))
                      case measure => omega
                      case rel => exact ⟨j + 1, po2, pc2, pl + 1, _, _, _, by go_num, rfl, by omega, hpl2, hpiv, hR9⟩
        · have hin : t = n := by omega
          subst hin
          have hne : ((t : Int) == (t : Int)) = true := beqT rfl
          have hst2 := hid (rN_none hsh'.out hst.out hpl.out hzz.out)
          clear hzz
          go_wp2_with fail
          go_roundg (c - (j + 1))
          case measure => omega
          case rel => exact ⟨j + 1, po, pc, pl, M, P, f, by go_num, rfl, by omega, hpl, hst2, hR⟩
    · have hjc : j = c := by omega
      subst hjc
      go_wp2_with fail
      refine hco.mono ?_
      rintro e w2 ⟨rfl, rfl⟩
      obtain ⟨sf, af, nf, cf, df, kf, ef, bF, hqF⟩ := hR.fac
      have hres := hR.res
      have z0 := bF.cell 0 rfl
      have z1 := bF.cell 1 rfl
      have z2 := bF.cell 2 rfl
      have g0 := hres.cell 0 rfl
      have g1 := hres.cell 1 rfl
      have g2 := hres.cell 2 rfl
      have h0 := hres.frozen 0
      have h1 := hres.frozen 1
      have h2 := hres.frozen 2
      obtain ⟨q1, q2⟩ := hres.set3 (.bool sf) (.slice af nf cf) (.slice df kf ef)
      have q1d := q1.ext0 (ExtX.refl (Y := noY) _).drew
      have q2d := q2.drew
      have hqf : QC (mk X _) (.agg #[.bool sf, .slice af nf cf, .slice df kf ef]) f := QC.mono _ _ _ _ (hunb.out _) (QC.mono _ _ _ _ (mk_mono q2d fun k hk => ob_hid hrb.out hk) (QC.mono _ _ _ _ (mk_sub fun k _ hk => un_left (un_left (un_left hk))) hqF))
      have hEf : Ext w _ := ExtX.box hR.ext q2d (by rw [hbw'.out]; exact Nat.le_refl _)
      have hsr : Sl RC 1 (mk X _) oo M := (((hR.rows.sl RC.elem).mono RC.mono (mk_sub fun k _ hk => un_left (un_left hk))).mono RC.mono (mk_mono q2d fun k hk => ob_hid hrb.out hk)).mono RC.mono (hunb.out _)
      have hsp : Sl (NatIn .i64) 1 (mk X _) po P := (((hR.piv.sl (NatIn.elem _)).mono (NatIn.mono _) (mk_sub fun k _ hk => un_left (un_left hk))).mono (NatIn.mono _) (mk_mono q2d fun k hk => ob_hid hrb.out hk)).mono (NatIn.mono _) (hunb.out _)
      have hpc : P.length ≤ pc := hR.piv.lenCap
      clear hres bF hR hqF q1 q2 q2d
      go_wp2_with fail
      go_region
      go_wp2_with fail
      refine bodyPost_ret (results_ttb (P := Tryz.prog) (c := 4) (d := 2) (e := 3) rfl rfl stRat q1d rfl) rfl ?_
      have hRO : ∀ w9, Ext w w9 → Sl RC 1 (mk X w9) oo M → Sl (NatIn .i64) 1 (mk X w9) po P → QC (mk X w9) (.agg #[.bool sf, .slice af nf cf, .slice df kf ef]) f → RedOut X w (rN m j) (.returned (.tuple #[.slice oo n co, .slice po pl pc, .agg #[.bool sf, .slice af nf cf, .slice df kf ef]])) w9 := fun w9 hEf hsr hsp hqf => by
        rw [hst.out]
        exact ⟨hEf, oo, co, po, pc, _, by rw [hMl.out, hpl.out], by rw [hMl.out]; exact hcap, hpc, hsr, hsp, hqf⟩
      exact hRO _ hEf hsr hsp hqf
end Go.Proofs.YtjbhcniiioepgaaGreat


namespace Go.Lin
open Go.Lim
/-- The reference's determinant. -/
noncomputable def detR (m : Mat) (n : Nat) : Rat := if (rN m n).2.1.length < n then 0 else (rN m n).2.2
theorem detR_det {n : Nat} {m : Mat} (hn : n ≤ 4) (hs : Shp n n m) : detR m n = det n (ent m) := by
  have h := rN_ok hs n
  obtain ⟨d, h1, h2⟩ := h.re
  have h3 := h1.det_same hn
  have h4 := h.ref.det hn
  unfold detR
  by_cases hp : (rN m n).2.1.length = n
  · rw [if_pos hp] at h4
    rw [if_neg (by omega)]
    rw [h4] at h3
    grind
  · have := h.ref.le
    rw [if_neg hp] at h4
    rw [if_pos (by omega)]
    rw [h4] at h3
    have := h1.ne
    grind
theorem detR_detV {n : Nat} {m : Mat} (hn : n ≤ 4) (hs : Shp n n m) : detR m n = detV m n := by rw [detR_det hn hs, detV_det hn hs]
end Go.Lin
namespace Go.Proofs.YtjbhcniiioepgaaGreat
open Go.RowKit Go.Rep Go.Lim Go.Lin

/-- A reduced form, its pivots and no error. -/
def RReOut (X : Nat → Bool) (w : World) (S : Mat × List Nat) (e : Ending) (w' : World) : Prop := Ext w w' ∧ ∃ oo co po pc, e = .returned (.tuple #[.slice oo S.1.length co, .slice po S.2.length pc, .int .i64 0]) ∧ S.1.length ≤ co ∧ S.2.length ≤ pc ∧ Sl RC 1 (mk X w') oo S.1 ∧ Sl (NatIn .i64) 1 (mk X w') po S.2

theorem rredu_no (X : Nat → Bool) (w : World) (u : Value) (m : List (List Rat)) (hu : MV (mk X w) u m) (hl : m.length ≤ 1099511627776) (hf : formedB m = false) : Calls Tryz.prog 34 #[u] w (fun e w' => Ext w w' ∧ e = .returned (.tuple #[.slice none 0 0, .slice none 0 0, .int .i64 6])) := by
  have hfo := rformed QV.mono X w u m hu hl
  rw [hf] at hfo
  clear hf
  go_enter Tryz.func34, Tryz.ntmps34
  go_wp2_with fail
  refine hfo.mono ?_
  rintro e w1 ⟨hE1, rfl⟩
  go_wp2_with fail
  go_ret3
  exact ⟨hE1, rfl⟩

theorem rredu_ok (X : Nat → Bool) (w : World) (u : Value) (m : List (List Rat)) (n c : Nat) (hX : HX X w) (hu : MV (mk X w) u m) (hf : formedB m = true) (hnn : m.length = n) (hcc : colsL m = c) (hT : TameR m c) : Calls Tryz.prog 34 #[u] w (RReOut X w ((rN m c).1, (rN m c).2.1)) := by
  obtain ⟨hsh, h96, hc96, _, _⟩ := formedB_shp hf
  rw [hnn, hcc] at hsh
  rw [hnn] at h96
  rw [hcc] at hc96
  have hfo := rformed QV.mono X w u m hu (by omega)
  rw [hf] at hfo
  have hre := hid (fun w' (h : Ext w w') => rreduce_any X w' u m n c (hX.ext h) (mkx MV.mono hu h) hsh hcc (by omega) (by omega) hT)
  obtain ⟨S, hS⟩ : ∃ S, rN m c = S := ⟨_, rfl⟩
  rw [hS] at hre ⊢
  clear hf hS
  go_enter Tryz.func34, Tryz.ntmps34
  go_wp2_with fail
  refine hfo.mono ?_
  rintro e w1 ⟨hE1, rfl⟩
  have h1 := hre.out w1 hE1
  clear hfo
  go_wp2_with fail
  refine h1.mono ?_
  rintro e w2 ⟨hE2, oo, co, po, pc, uf, rfl, hco, hpc, hso, hsp, huf⟩
  obtain ⟨s2, a2, n2, c2, d2, k2, e2, rfl⟩ := huf.shape
  have bx := Bx.new w2 #[.bool false, .slice none 0 0, .slice none 0 0] 31
  clear h1
  go_wp2_with ((with_reducible show wpList _ _ _ (⟨_, .store _ _ _, _, _, _, _⟩ :: _) _ _); refine st_storeBox stRat rfl rfl bx rfl rfl (one3 _ _ _ _ _ _ _) ?_; intro w3 r1 r2)
  have hE3 : Ext w2 w3 := ExtX.box ((ExtX.refl w2).alloc _) r2 (Nat.le_refl _)
  go_ret3
  exact ⟨hE1.trans (hE2.trans hE3), oo, co, po, pc, rfl, hco, hpc, hso.mono RC.mono (mk_ext hE3), hsp.mono (NatIn.mono _) (mk_ext hE3)⟩

theorem rrank_no (X : Nat → Bool) (w : World) (u : Value) (m : List (List Rat)) (hu : MV (mk X w) u m) (hl : m.length ≤ 1099511627776) (hf : formedB m = false) : Calls Tryz.prog 36 #[u] w (fun e w' => Ext w w' ∧ e = .returned (.tuple #[.int .i64 0, .int .i64 6])) := by
  have hre := rredu_no X w u m hu hl hf
  clear hf
  go_enter Tryz.func36, Tryz.ntmps36
  go_wp2_with fail
  refine hre.mono ?_
  rintro e w1 ⟨hE1, rfl⟩
  go_wp2_with fail
  go_ret2
  exact ⟨hE1, rfl⟩
theorem rrank_ok (X : Nat → Bool) (w : World) (u : Value) (m : List (List Rat)) (n c : Nat) (hX : HX X w) (hu : MV (mk X w) u m) (hf : formedB m = true) (hnn : m.length = n) (hcc : colsL m = c) (hT : TameR m c) : Calls Tryz.prog 36 #[u] w (fun e w' => Ext w w' ∧ e = .returned (.tuple #[.int .i64 (rankV m c : Int), .int .i64 0])) := by
  obtain ⟨hsh, h96, hc96, _, _⟩ := formedB_shp hf
  rw [hnn, hcc] at hsh
  have hre := rredu_ok X w u m n c hX hu hf hnn hcc hT
  have hrk : Hid ((rN m c).2.1.length = rankV m c) := hid (by rw [rankV_red, (red_eq hsh).2])
  obtain ⟨S, hS⟩ : ∃ S, rN m c = S := ⟨_, rfl⟩
  rw [hS] at hre hrk
  clear hf hS
  go_enter Tryz.func36, Tryz.ntmps36
  go_wp2_with fail
  refine hre.mono ?_
  rintro e w1 ⟨hE1, oo, co, po, pc, rfl, hco, hpc, hso, hsp⟩
  rw [hrk.out]
  go_wp2_with fail
  go_ret2
  exact ⟨hE1, rfl⟩

theorem rdet_no (X : Nat → Bool) (w : World) (u : Value) (m : List (List Rat)) (hX : HX X w) (hu : MV (mk X w) u m) (hl : m.length ≤ 1099511627776) (hf : formedB m = true → colsL m ≠ m.length) : Calls Tryz.prog 38 #[u] w (fun e w' => Ext w w' ∧ ∃ u, e = .returned (.tuple #[u, .int .i64 6]) ∧ QC (mk X w') u 0) := by
  obtain ⟨W, hW, hEW, b0, hz⟩ := boxes1 w #[.bool false, .slice none 0 0, .slice none 0 0] 31
  have huW := mkx MV.mono hu hEW
  have hfo := rformed QV.mono X W u m huW hl
  cases hfv : formedB m
  · rw [hfv] at hfo
    clear hfv hf
    go_enter Tryz.func38, Tryz.ntmps38
    go_wp2_with fail
    refine hfo.mono ?_
    rintro e w1 ⟨hE1, rfl⟩
    have b1 := b0.ext0 hE1
    go_wp2_with ((with_reducible show wpList _ _ _ (⟨_, .store _ _ _, _, _, _, _⟩ :: _) _ _); refine st_storeBox stRat rfl rfl b1 rfl rfl (one3 _ _ _ _ _ _ _) ?_; intro w3 r1 r2)
    exact bodyPost_ret (results_box2 rfl rfl stRat r1 rfl) rfl ⟨ExtX.box (hEW.trans hE1) r2 (by omega), _, rfl, QC.zero _⟩
  · rw [hfv] at hfo
    have hcol := hid (fun w' (h : Ext W w') => rcolumns X w' u m (mkx MV.mono huW h))
    have hne0 := hf hfv
    obtain ⟨ua, uca, rfl, huca, hua⟩ := hu
    obtain ⟨c, hc⟩ : ∃ c, colsL m = c := ⟨_, rfl⟩
    obtain ⟨n, hn⟩ : ∃ n, m.length = n := ⟨_, rfl⟩
    rw [hc] at hcol hne0
    rw [hn] at hfo hcol hne0 ⊢
    have hne : ((c : Int) != (n : Int)) = true := bneT (by omega)
    clear hfv hf hc hn hne0 huW hua
    go_enter Tryz.func38, Tryz.ntmps38
    go_wp2_with fail
    refine hfo.mono ?_
    rintro e w1 ⟨hE1, rfl⟩
    have h1 := hcol.out w1 hE1
    clear hfo
    go_wp2_with fail
    refine h1.mono ?_
    rintro e w2 ⟨rfl, rfl⟩
    have b1 := b0.ext0 hE1
    clear h1
    go_wp2_with ((with_reducible show wpList _ _ _ (⟨_, .store _ _ _, _, _, _, _⟩ :: _) _ _); refine st_storeBox stRat rfl rfl b1 rfl rfl (one3 _ _ _ _ _ _ _) ?_; intro w3 r1 r2)
    exact bodyPost_ret (results_box2 rfl rfl stRat r1 rfl) rfl ⟨ExtX.box (hEW.trans hE1) r2 (by omega), _, rfl, QC.zero _⟩

set_option maxRecDepth 100000 in
theorem rdet_ok (X : Nat → Bool) (w : World) (u : Value) (m : List (List Rat)) (n : Nat) (hX : HX X w) (hu : MV (mk X w) u m) (hf : formedB m = true) (hnn : m.length = n) (hcc : colsL m = n) (hT : TameR m n) : Calls Tryz.prog 38 #[u] w (fun e w' => Ext w w' ∧ ∃ u, e = .returned (.tuple #[u, .int .i64 0]) ∧ QC (mk X w') u (detR m n)) := by
  obtain ⟨hsh, h96, hc96, _, _⟩ := formedB_shp hf
  rw [hnn, hcc] at hsh
  rw [hnn] at h96
  obtain ⟨W, hW, hEW, b0, hz⟩ := boxes1 w #[.bool false, .slice none 0 0, .slice none 0 0] 31
  have hXW : HX (hidB X w.heap.size 1) W := hX.boxes hz
  have huW : MV (mk (hidB X w.heap.size 1) W) u m := MV.mono _ _ _ _ (le_boxes hEW) hu
  have hfo := rformed QV.mono _ W u m huW (by omega)
  rw [hf] at hfo
  have hcol := hid (fun w' (h : Ext W w') => rcolumns _ w' u m (mkx MV.mono huW h))
  rw [hcc] at hcol
  have hre := hid (fun w' (h : Ext W w') => rreduce_any _ w' u m n n (hXW.ext h) (mkx MV.mono huW h) hsh hcc (by omega) (by omega) hT)
  have hdr : Hid (detR m n = if (rN m n).2.1.length < n then 0 else (rN m n).2.2) := hid rfl
  have hlen := hid ((rN_ok hsh n).ref.le)
  obtain ⟨S, hS⟩ : ∃ S, rN m n = S := ⟨_, rfl⟩
  rw [hS] at hre hdr hlen
  obtain ⟨M, P, f⟩ := S
  dsimp only at hdr hlen
  obtain ⟨ua, uca, rfl, huca, hua⟩ := hu
  rw [hnn] at hfo hcol hre ⊢
  have hne : ((n : Int) != (n : Int)) = false := bneF rfl
  clear hf hS hsh huW hua
  go_enter Tryz.func38, Tryz.ntmps38
  go_wp2_with fail
  refine hfo.mono ?_
  rintro e w1 ⟨hE1, rfl⟩
  have h1 := hcol.out w1 hE1
  clear hfo
  go_wp2_with fail
  refine h1.mono ?_
  rintro e w2 ⟨rfl, rfl⟩
  have h2 := hre.out w2 hE1
  clear h1
  go_wp2_with fail
  refine h2.mono ?_
  rintro e w3 ⟨hE3, oo, co, po, pc, uf, rfl, hco, hpc, hso, hsp, huf⟩
  dsimp only at hpc huf ⊢
  obtain ⟨s2, a2, n2, c2, d2, k2, e2, rfl⟩ := huf.shape
  have bx := Bx.new w3 #[.bool false, .slice none 0 0, .slice none 0 0] 31
  have b3 := b0.ext0 (hE1.trans hE3)
  obtain ⟨pl, hpl⟩ : ∃ pl, P.length = pl := ⟨_, rfl⟩
  rw [hpl] at hdr hlen ⊢
  clear h2 hso hsp hpc hpl
  by_cases hlt : pl < n
  · have hd0 : Hid (detR m n = 0) := hid (by rw [hdr.out, if_pos hlt])
    go_wp2_with ((with_reducible show wpList _ _ _ (⟨_, .store _ _ _, _, _, _, _⟩ :: _) _ _); first | (refine st_storeBox stRat rfl rfl bx rfl rfl (one3 _ _ _ _ _ _ _) ?_; intro w4 r1 r2; have b4 := b3.ext0 (ExtX.box ((ExtX.refl w3).alloc _) r2 (Nat.le_refl _))) | (refine st_storeBox stRat rfl rfl b4 rfl rfl (one3 _ _ _ _ _ _ _) ?_; intro w5 r3 r4))
    have hE4 : Ext w3 w4 := ExtX.box ((ExtX.refl w3).alloc _) r2 (Nat.le_refl _)
    exact bodyPost_ret (results_box2 rfl rfl stRat r3 rfl) rfl ⟨ExtX.box (hEW.trans (hE1.trans (hE3.trans hE4))) r4 (by omega), _, rfl, by rw [hd0.out]; exact QC.zero _⟩
  · have hd0 : Hid (detR m n = f) := hid (by rw [hdr.out, if_neg hlt])
    go_wp2_with ((with_reducible show wpList _ _ _ (⟨_, .store _ _ _, _, _, _, _⟩ :: _) _ _); first | (refine st_storeBox stRat rfl rfl bx rfl rfl (one3 _ _ _ _ _ _ _) ?_; intro w4 r1 r2; have b4 := b3.ext0 (ExtX.box ((ExtX.refl w3).alloc _) r2 (Nat.le_refl _)); have k0 := r1.cell 0 rfl; have k1 := r1.cell 1 rfl; have k2 := r1.cell 2 rfl) | (refine st_storeBox stRat rfl rfl b4 rfl rfl (one3 _ _ _ _ _ _ _) ?_; intro w5 r3 r4))
    have hE4 : Ext w3 w4 := ExtX.box ((ExtX.refl w3).alloc _) r2 (Nat.le_refl _)
    have h7 := QC.mono _ _ _ _ le_unbox (QC.mono _ _ _ _ (le_store r4 (Nat.le_refl _) (by omega)) (mkx QC.mono huf hE4))
    exact bodyPost_ret (results_box2 rfl rfl stRat r3 rfl) rfl ⟨ExtX.box (hEW.trans (hE1.trans (hE3.trans hE4))) r4 (by omega), _, rfl, by rw [hd0.out]; exact h7⟩
end Go.Proofs.YtjbhcniiioepgaaGreat


namespace Go.Lin
open Go.Lim
theorem wideI_row {m : Mat} {n i : Nat} (h : i < (wideI m n).length) (hi : i < m.length) : (wideI m n)[i] = m[i] ++ (List.range n).map fun j => if i = j then 1 else 0 := by
  have hin : i < n := by simpa [wideI] using h
  simp only [wideI, List.getElem_map, List.getElem_range]
  rw [getD_row' hi]
  congr 1
  refine List.ext_getElem (by simp) fun j h1 h2 => ?_
  rw [List.getElem_set, List.getElem_map, List.getElem_range, List.getElem_replicate]
theorem wideI_colsL {m : Mat} {n : Nat} (hs : Shp n n m) : colsL (wideI m n) = 2 * n := colsL_shp (wideI_shp hs) (by omega)
theorem singR {m : Mat} {n : Nat} (hn : n ≤ 4) (hs : Shp n n m) : singP m n ↔ detR m n = 0 := by rw [detR_detV hn hs]; exact sing_det hn hs
end Go.Lin
namespace Go.Proofs.YtjbhcniiioepgaaGreat
open Go.RowKit Go.Rep Go.Lim Go.Lin

/-- A row whose slice the call itself made. -/
def TlOut (X : Nat → Bool) (w : World) (l : List Rat) (e : Ending) (w' : World) : Prop := Ext w w' ∧ ∃ oo co, e = .returned (.slice oo l.length co) ∧ OL QC 3 X w.heap.size 31 w' oo co l

set_option maxRecDepth 100000 in
theorem rqtakelistO (X : Nat → Bool) (w : World) (u : Value) (l : List Rat) (hX : HX X w) (hu : RV (mk X w) u l) (hl : l.length ≤ 1000000) : Calls Tryz.prog 78 #[u] w (TlOut X w l) := by
  obtain ⟨ao, ca, rfl, hca, hsa⟩ := hu
  have hha := hsa.hd
  go_enter Tryz.func78, Tryz.ntmps78
  go_wp2_with fail
  go_loopw [3, 4] (fun o c wr => ∃ (i : Nat) (oo : Option Addr) (co : Nat), c = .int .i64 i ∧ o = .slice oo i co ∧ i ≤ l.length ∧ OL QC 3 X w.heap.size 31 wr oo co (l.take i) ∧ Ext w wr) (fun _ c _ => l.length - (intOf c).toNat)
  case atStart => exact ⟨0, none, 0, rfl, rfl, Nat.zero_le _, OL.nil _ _ _ _ _ _, ExtX.refl _⟩
  case round =>
    obtain ⟨i, oo, co, rfl, rfl, hi, hO, hE⟩ := hrel
    have hXr : HX X wr := hX.ext hE
    have hXu : HX (un X oo) wr := hO.unX hXr
    have hbase := hE.size
    by_cases hlt : i < l.length
    · have hsr : Sl QV 3 (mk (un X oo) wr) ao l := hsa.old QV.mono hE (fun j hj => hO.ob_lt hj)
      have htk := hid (take_snoc l i hlt)
      have hln := hid (len_take hi)
      go_wp2_with (first | (with_reducible refine up_ixn slRat (by omega) (by assumption) ?_) | ((with_reducible show wpList _ _ _ (⟨_, .load _ _, _, _, _, _⟩ :: _) _ _); refine st_loadElem stRat i hsr hlt rfl (by simp) QV.agg ?_; intro u5 hu5; obtain ⟨s5, a5, n5, c5, d5, k5, e5, rfl⟩ := hu5.shape))
      refine (rqtake (un X oo) wr _ _ hXu hu5).mono ?_
      rintro e w6 ⟨hE6, u6, rfl, hu6⟩
      obtain ⟨s6, a6, n6, c6, d6, k6, e6, rfl⟩ := hu6.shape
      have hO6 := hO.ext0 QC.elem hE6
      have hb6 := hE6.size
      go_wp2_with (at_builtin; refine st_append1n (l := l.take i) slRat rfl QC.elem (by omega) (hXr.ext hE6) i hln.out rfl rfl hO6 (.agg #[.bool s6, .slice a6 n6 c6, .slice d6 k6 e6]) l[i] rfl hu6 (by omega) (by omega) ?_; intro oo2 co2 w7 hO7 hE7 hor)
      have hE8 := (hE.trans hE6).own hO6 (Nat.le_refl _) hE7
      rw [htk.out] at hO7
      go_roundw
      case rel => exact ⟨i + 1, oo2, co2, by go_num, by go_num, by omega, hO7, hE8⟩
      case measure => simp [intOf]; omega
    · have hil : i = l.length := by omega
      subst hil
      rw [List.take_length] at hO
      go_wp2_with fail
      go_ret
      exact ⟨hE, oo, co, rfl, hO⟩

set_option maxRecDepth 100000 in
set_option maxHeartbeats 800000 in
theorem rbeside_any (X : Nat → Bool) (w : World) (u : Value) (m : List (List Rat)) (n : Nat) (hX : HX X w) (hu : MV (mk X w) u m) (hsh : Shp n n m) (hn : n ≤ 96) : Calls Tryz.prog 102 #[u] w (ROut X w MC (wideI m n)) := by
  obtain ⟨M, hM⟩ : ∃ M, wideI m n = M := ⟨_, rfl⟩
  have hMl : Hid (M.length = n) := hid (by rw [← hM]; simp [wideI])
  have hMr : Hid (∀ i (hi : i < m.length) (h : i < M.length), M[i] = m[i] ++ (List.range n).map fun j => if i = j then 1 else 0) := hid fun i hi h => by subst hM; exact wideI_row h hi
  have hMl2 : M.length ≤ n := by rw [hMl.out]; exact Nat.le_refl _
  have hMl3 : n ≤ M.length := by rw [hMl.out]; exact Nat.le_refl _
  rw [hM]
  have hsh' := hid hsh
  have hnn := hid hsh.1
  obtain ⟨ua, uca, rfl, huca, hua⟩ := hu
  have hhu := hua.hd
  rw [hnn.out] at huca hhu ⊢
  clear hM hsh
  go_enter Tryz.func102, Tryz.ntmps102
  go_wp2_with fail
  go_loopw [3, 4] (fun o cc wr => ∃ (i : Nat) (oo : Option Addr) (co : Nat), cc = .int .i64 i ∧ o = .slice oo i co ∧ i ≤ n ∧ OL RC 1 X w.heap.size 33 wr oo co (M.take i) ∧ Ext w wr) (fun _ cc _ => n - (intOf cc).toNat)
  case atStart => exact ⟨0, none, 0, rfl, rfl, Nat.zero_le _, OL.nil _ _ _ _ _ _, ExtX.refl _⟩
  case round =>
    obtain ⟨i, oo, co, rfl, rfl, hi, hO, hE⟩ := hrel
    have hXr : HX X wr := hX.ext hE
    have hXu : HX (un X oo) wr := hO.unX hXr
    have hbase := hE.size
    by_cases hlt : i < n
    · have him : i < m.length := by rw [hnn.out]; exact hlt
      have hltM : i < M.length := by omega
      have htk := hid (take_snoc M i hltM)
      have hln := hid (len_take (l := M) (i := i) (by omega))
      have hrl : Hid (m[i].length = n) := hid (hsh'.out.2 m[i] (List.getElem_mem _))
      have hsr : Sl RV 1 (mk (un X oo) wr) ua m := hua.old RV.mono hE (fun j hj => hO.ob_lt hj)
      obtain ⟨a1, c1, hX1, hc1, hcl1, hq1⟩ := hsr.row i him
      have k00 := hc1.out noY wr (ExtX.refl _) rfl
      have htl := rqtakelistO (un X oo) wr (.slice a1 m[i].length c1) m[i] hXu ⟨a1, c1, rfl, hcl1, hq1⟩ (by rw [hrl.out]; omega)
      obtain ⟨R, hR⟩ : ∃ R, M[i] = R := ⟨_, rfl⟩
      have hRd := hMr.out i him hltM
      rw [hR] at hRd htk
      obtain ⟨x, hx⟩ : ∃ x, m[i] = x := ⟨_, rfl⟩
      rw [hx] at hrl htl hRd k00
      have hRl : Hid (R.length = n + n) := hid (by rw [hRd, List.length_append, hrl.out]; simp)
      have hRt : Hid (R.take n = x) := hid (by rw [hRd, List.take_append_of_le_length (by rw [hrl.out]; exact Nat.le_refl _), List.take_of_length_le (by rw [hrl.out]; exact Nat.le_refl _)])
      have hRi : Hid (∀ j (hj : j < n) (h : n + j < R.length), R[n + j] = if i = j then 1 else 0) := hid fun j hj h => by
        subst hRd
        rw [List.getElem_append_right (by rw [hrl.out]; omega)]
        simp [hrl.out]
      have hRl2 : R.length ≤ n + n := by rw [hRl.out]; exact Nat.le_refl _
      have hRl3 : n + n ≤ R.length := by rw [hRl.out]; exact Nat.le_refl _
      rw [hrl.out] at k00 htl
      clear hRd hR hx hc1 hq1 hcl1
      obtain ⟨wo, hwo⟩ : ∃ wo, wo = wr := ⟨_, rfl⟩
      subst hwo
      go_wp2_with (with_reducible refine up_ix1 slRats (by omega) (by assumption) ?_)
      refine htl.mono ?_
      rintro e w5 ⟨hE5, ro0, cr0, rfl, hOr0⟩
      rw [hrl.out]
      rw [← hRt.out] at hOr0
      have hOr1 : OL QC 3 (un X oo) wo.heap.size 31 w5 ro0 cr0 (R.take (n + 0)) := hOr0
      clear k00 htl hOr0
      go_wp2_with fail
      go_loopw [5, 6] (fun o cc wx => ∃ (j : Nat) (ro : Option Addr) (cr k : Nat), cc = .int .i64 j ∧ o = .slice ro k cr ∧ k = n + j ∧ j ≤ n ∧ OL QC 3 (un X oo) wo.heap.size 31 wx ro cr (R.take (n + j)) ∧ Ext wo wx) (fun _ cc _ => n - (intOf cc).toNat)
      case atStart => exact ⟨0, ro0, cr0, n, rfl, rfl, rfl, Nat.zero_le _, hOr1, hE5⟩
      case round =>
        clear hOr1
        obtain ⟨j, ro, cr, k, rfl, rfl, hkj, hj, hOr, hEr⟩ := hrel
        have hXx : HX (un X oo) wr := hXu.ext hEr
        have hXy : HX (un (un X oo) ro) wr := hOr.unX hXx
        have hbr := hEr.size
        by_cases hlj : j < n
        · have hljR : n + j < R.length := by omega
          have htj := hid (take_snoc R (n + j) hljR)
          have hlnj := hid (len_take (l := R) (i := n + j) (by omega))
          have hRj := hRi.out j hlj hljR
          rw [hRj] at htj
          have hkj' := hid hkj
          by_cases hij : i = j
          · have hb : ((i : Int) == (j : Int)) = true := beqT (by omega)
            have hv1 : (((1 : Int) : Rat)) = if i = j then 1 else 0 := by rw [if_pos hij]; rfl
            rw [← hv1] at htj
            clear hRj hij hv1 hkj
            go_wp2_with fail
            refine (rqfrom (un (un X oo) ro) wr 1 hXy (by decide) (by decide)).mono ?_
            rintro e w6 ⟨hE6, u6, rfl, hu6⟩
            obtain ⟨s6, a6, n6, c6, d6, k6, e6, rfl⟩ := hu6.shape
            have hO6 := hOr.ext0 QC.elem hE6
            have hb6 := hE6.size
            go_wp2_with (at_builtin; refine st_append1n (l := R.take (n + j)) slRat rfl QC.elem (by omega) (hXx.ext hE6) k (by rw [hlnj.out, hkj'.out]) rfl rfl hO6 (.agg #[.bool s6, .slice a6 n6 c6, .slice d6 k6 e6]) _ rfl hu6 (by have := hkj'.out; omega) (by have := hkj'.out; omega) ?_; intro oo2 co2 w7 hO7 hE7 hor)
            have hE8 := (hEr.trans hE6).own hO6 (Nat.le_refl _) hE7
            rw [htj.out] at hO7
            go_roundw
            case rel => exact ⟨j + 1, oo2, co2, k + 1, by go_num, by go_num, by have := hkj'.out; omega, by omega, hO7, hE8⟩
            case measure => simp [intOf]; omega
          · have hb : ((i : Int) == (j : Int)) = false := beqF (by omega)
            have hv1 : (((0 : Int) : Rat)) = if i = j then 1 else 0 := by rw [if_neg hij]; rfl
            rw [← hv1] at htj
            clear hRj hij hv1 hkj
            go_wp2_with fail
            refine (rqfrom (un (un X oo) ro) wr 0 hXy (by decide) (by decide)).mono ?_
            rintro e w6 ⟨hE6, u6, rfl, hu6⟩
            obtain ⟨s6, a6, n6, c6, d6, k6, e6, rfl⟩ := hu6.shape
            have hO6 := hOr.ext0 QC.elem hE6
            have hb6 := hE6.size
            go_wp2_with (at_builtin; refine st_append1n (l := R.take (n + j)) slRat rfl QC.elem (by omega) (hXx.ext hE6) k (by rw [hlnj.out, hkj'.out]) rfl rfl hO6 (.agg #[.bool s6, .slice a6 n6 c6, .slice d6 k6 e6]) _ rfl hu6 (by have := hkj'.out; omega) (by have := hkj'.out; omega) ?_; intro oo2 co2 w7 hO7 hE7 hor)
            have hE8 := (hEr.trans hE6).own hO6 (Nat.le_refl _) hE7
            rw [htj.out] at hO7
            go_roundw
            case rel => exact ⟨j + 1, oo2, co2, k + 1, by go_num, by go_num, by have := hkj'.out; omega, by omega, hO7, hE8⟩
            case measure => simp [intOf]; omega
        · have hjc : j = n := by omega
          subst hjc
          rw [List.take_of_length_le (by omega)] at hOr
          have hcr := hOr.lenCap
          have hsR := hOr.sl QC.elem
          have hO6 := hO.ext0 RC.elem hEr
          have hkl : Hid (R.length = k) := hid (by rw [hRl.out, hkj])
          have hRC : RC (mk (un X oo) wr) (.slice ro k cr) R := ⟨ro, cr, by rw [hkl.out], hcr, hsR⟩
          clear hkj
          go_wp2_with (at_builtin; refine st_append1n (l := M.take i) slRats rfl RC.elem (by omega) (hXr.ext hEr) i hln.out rfl rfl hO6 (.slice ro k cr) R rfl hRC (by omega) (by omega) ?_; intro oo2 co2 w7 hO7 hE7 hor)
          have hE8 := (hE.trans hEr).own hO6 (Nat.le_refl _) hE7
          rw [htk.out] at hO7
          go_roundw
          case rel => exact ⟨i + 1, oo2, co2, by go_num, by go_num, by omega, hO7, hE8⟩
          case measure => simp [intOf]; omega
    · have hil : i = n := by omega
      subst hil
      rw [List.take_of_length_le (by omega)] at hO
      have hc := hO.lenCap
      have hs := hO.sl RC.elem
      go_wp2_with fail
      go_ret
      exact ⟨hE, _, rfl, oo, co, by rw [hMl.out]; rfl, hc, hs⟩
end Go.Proofs.YtjbhcniiioepgaaGreat

