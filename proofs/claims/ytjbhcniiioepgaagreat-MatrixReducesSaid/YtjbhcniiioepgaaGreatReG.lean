/- matrix: eliminate. Conditions: numbers of at most 2^36 digits. matrix: echelon's closure, slices.IndexFunc over it. Conditions: numbers of at most 2^36 digits. Rows exchanged, rows cleared: steps on matrices that a call has made itself. Conditions: none. matrix: echelon. Conditions: few rows and columns, numbers of at most 2^36 digits. matrix: reduce. Conditions: few rows and columns, numbers of at most 2^36 digits. copy into a row that a call has made itself. Conditions: none. The determinants and ranks that the program computes. Conditions: at most four rows for determinants. Rows turned as law 06 turns them. Conditions: none. matrix: dot. Conditions: few numbers of at most 2^36 digits. matrix: Apply, Mul. Conditions: few rows and columns, numbers of few digits. Bounds of determinants and products, for law 06. Conditions: none. The inverse that the program computes. Conditions: at most four rows where a determinant is spoken of. matrix: Inverse. Conditions: few rows, numbers of few digits. -/
import Derived.Test.YtjbhcniiioepgaaGreatReF
namespace Go.Proofs.YtjbhcniiioepgaaGreat
open Go.RowKit Go.Rep Go.Lim Go.Lin

/-- One row was eliminated; nothing else was turned. -/
def EOut (Z : Nat → Bool) (base : Nat) (e : TypeId) (w : World) (a : Option Addr) (cap : Nat) (l : List Rat) (ee : Ending) (w' : World) : Prop := ee = .returned (.tuple #[]) ∧ ExtX (ob a) w w' ∧ OL QC 3 (cut Z a) base e w' a cap l

set_option maxRecDepth 100000 in
set_option maxHeartbeats 1600000 in
theorem eliminate_any (Z : Nat → Bool) (base : Nat) (w : World) (a1 a2 : Option Addr) (c1 c2 n col : Nat) (row piv : List Rat) (hX : HX Z w) (h1 : OL QC 3 (cut Z a1) base 31 w a1 c1 row) (h2 : OL QC 3 (cut Z a2) base 31 w a2 c2 piv)
    (hz1 : ∀ k, ob a1 k = true → Z k = true) (hz2 : ∀ k, ob a2 k = true → Z k = true) (hdis : ∀ k, ob a1 k = true → ob a2 k = false) (hl1 : row.length = n) (hl2 : piv.length = n) (hn : n ≤ 1000) (hcol : col < n)
    (hb1 : BR 68719476736 row) (hb2 : BR 68719476736 piv) (hb3 : hq (row.getD col 0 / piv.getD col 0) ≤ 68719476736) (hb4 : ∀ x ∈ piv, hq (row.getD col 0 / piv.getD col 0 * x) ≤ 68719476736) :
    Calls Tryz.prog 136 #[.slice a1 n c1, .slice a2 n c2, .int .i64 (col : Int)] w (EOut Z base 31 w a1 c1 (elimL row piv col)) := by
  have hu1 := hid (un_cut hz1)
  have hu2 := hid (un_cut hz2)
  have hdis2 : ∀ k, ob a2 k = true → ob a1 k = false := fun k hk => by
    cases hb : ob a1 k
    · rfl
    · rw [hdis k hb] at hk; simp at hk
  have hd1 : Hd a1 n := by have := h1.hd; rw [hl1] at this; exact this
  have hd2 : Hd a2 n := by have := h2.hd; rw [hl2] at this; exact this
  have hc1r : col < row.length := by omega
  have hc2r : col < piv.length := by omega
  have g1 : Hid (row.getD col 0 = row[col]) := hid (by simp [List.getD_eq_getElem?_getD, hc1r])
  have g2 : Hid (piv.getD col 0 = piv[col]) := hid (by simp [List.getD_eq_getElem?_getD, hc2r])
  obtain ⟨E, hE⟩ : ∃ E, elimL row piv col = E := ⟨_, rfl⟩
  have hEl : Hid (E.length = n) := hid (by rw [← hE, elimL_len _ _ _ (by omega)]; exact hl2)
  have hEi : Hid (∀ j (hj : j < row.length) (hj2 : j < piv.length) (hj3 : j < E.length), E[j] = row[j] - (row.getD col 0 / piv.getD col 0) * piv[j]) := hid fun j hj hj2 hj3 => by subst hE; simp [elimL]
  have hE0 : Hid (row.getD col 0 / piv.getD col 0 = 0 → E = row) := hid fun h => by rw [← hE]; exact elimL_zero _ _ _ (by omega) h
  have hrE : Hid (E.length = row.length) := hid (by rw [hEl.out, hl1])
  have hl1' := hid hl1
  have hl2' := hid hl2
  have hb1' := hid hb1
  have hb2' := hid hb2
  obtain ⟨f, hf⟩ : ∃ f, row.getD col 0 / piv.getD col 0 = f := ⟨_, rfl⟩
  rw [hf] at hb3 hE0 hEi hb4
  have hb3' := hid hb3
  have hb4' := hid hb4
  have hff : Hid (row[col] / piv[col] = f) := hid (by rw [← g1.out, ← g2.out]; exact hf)
  rw [hE]
  obtain ⟨gg1, oo1, s1, p1, n1, q1, d1, k1, e1, hg1, hog1, hcc1, hr1⟩ := h1.rat QC.shaped col hc1r
  obtain ⟨gg2, oo2, s2, p2, n2, q2, d2, k2, e2, hg2, hog2, hcc2, hr2⟩ := h2.rat QC.shaped col hc2r
  rw [hu1.out] at hr1
  rw [hu2.out] at hr2
  have i1 : ∀ W, (Instr.indexAt 33 (.slice a1 n c1) (.int .i64 (col : Int))).run Tryz.prog W = .ok (.pointer (some ⟨gg1, oo1, none⟩)) W := by rw [← hg1]; exact run_indexAt_adr slRat a1 n c1 .i64 col hd1 hcol
  have i2 : ∀ W, (Instr.indexAt 33 (.slice a2 n c2) (.int .i64 (col : Int))).run Tryz.prog W = .ok (.pointer (some ⟨gg2, oo2, none⟩)) W := by rw [← hg2]; exact run_indexAt_adr slRat a2 n c2 .i64 col hd2 hcol
  have hEd : Ext w w.drew := (ExtX.refl w).drew
  have hS : Hid (∀ Y W', ExtX Y w.drew W' → Y gg1 = false → Y gg2 = false → W'.cell? ⟨gg1, oo1, none⟩ = some (.bool s1) ∧ W'.cell? ⟨gg1, oo1 + 1, none⟩ = some (.slice p1 n1 q1) ∧ W'.cell? ⟨gg1, oo1 + 2, none⟩ = some (.slice d1 k1 e1) ∧ W'.cell? ⟨gg2, oo2, none⟩ = some (.bool s2) ∧ W'.cell? ⟨gg2, oo2 + 1, none⟩ = some (.slice p2 n2 q2) ∧ W'.cell? ⟨gg2, oo2 + 2, none⟩ = some (.slice d2 k2 e2)) := hid fun Y W' h hy1 hy2 => by
    have z1 := hcc1.out Y W' ((ExtX.of hEd).trans h) hy1
    have z2 := hcc2.out Y W' ((ExtX.of hEd).trans h) hy2
    exact ⟨z1.1, z1.2.1, z1.2.2, z2.1, z2.2.1, z2.2.2⟩
  obtain ⟨k00, k01, k02, k10, k11, k12⟩ := hS.out noY w.drew (ExtX.refl _) rfl rfl
  have hlt1 : gg1 < w.heap.size := cell_lt k00
  have hlt2 : gg2 < w.heap.size := cell_lt k10
  have hXd : HX Z w.drew := hX
  have hx1 : QV (mk Z w.drew) (.agg #[.bool s1, .slice p1 n1 q1, .slice d1 k1 e1]) row[col] := hr1.qv (hb1'.out _ (List.getElem_mem _))
  have hx2 : QV (mk Z w.drew) (.agg #[.bool s2, .slice p2 n2 q2, .slice d2 k2 e2]) piv[col] := hr2.qv (hb2'.out _ (List.getElem_mem _))
  obtain ⟨ec, hec⟩ : ∃ ec, e5 (decide (piv[col] = 0)) = ec := ⟨_, rfl⟩
  have qd := qdiv Z w.drew _ _ _ _ hXd hx1 hx2
  rw [hec, hff.out] at qd
  have hEA : Ext w.drew (w.alloc (.cells #[.bool false, .slice none 0 0, .slice none 0 0] 31)).drew := ⟨rfl, rfl, rfl, ((ExtX.refl (Y := noY) w).alloc _).size, ((ExtX.refl (Y := noY) w).alloc _).block⟩
  have bA : Bx (w.alloc (.cells #[.bool false, .slice none 0 0, .slice none 0 0] 31)).drew w.heap.size #[.bool false, .slice none 0 0, .slice none 0 0] 31 := Bx.new w _ _
  have hEA2 : Ext w (w.alloc (.cells #[.bool false, .slice none 0 0, .slice none 0 0] 31)).drew := hEd.trans hEA
  have hXA : HX (un Z (some ⟨w.heap.size, 0, none⟩)) (w.alloc (.cells #[.bool false, .slice none 0 0, .slice none 0 0] 31)).drew := fun k hk => by
    have h9 : (w.alloc (.cells #[.bool false, .slice none 0 0, .slice none 0 0] 31)).drew.heap.size = w.heap.size + 1 := by show (w.alloc _).heap.size = _; simp
    rw [h9]
    by_cases hz : Z k = true
    · have := hX k hz; omega
    · have : w.heap.size = k := by simpa [un, hz, ob] using hk
      omega
  have hnewb : ∀ j, j < w.heap.size → ob (some ⟨w.heap.size, 0, none⟩) j = false := fun j hj => ob_other (by omega)
  have qdA := qdiv (un Z (some ⟨w.heap.size, 0, none⟩)) (w.alloc (.cells #[.bool false, .slice none 0 0, .slice none 0 0] 31)).drew _ _ _ _ hXA (old_un (w := w) QV.mono hx1 hEA2 hnewb) (old_un (w := w) QV.mono hx2 hEA2 hnewb)
  rw [hec, hff.out] at qdA
  clear hg1 hg2 hcc1 hcc2 hr1 hr2 hf hE hl1 hl2 hb1 hb2 hb3 hb4 hec
  go_enter Tryz.func136, Tryz.ntmps136
  go_upto_region 0 with (fail)
  go_cut [6, 7] from 10 to 21 (fun b6 _ wx => ∃ bf s a n' c d k e, b6 = .pointer (some ⟨bf, 0, none⟩) ∧ Bx wx bf #[.bool s, .slice a n' c, .slice d k e] 31 ∧ w.heap.size ≤ bf ∧ QC (mk Z wx) (.agg #[.bool s, .slice a n' c, .slice d k e]) f ∧ Ext w wx)
  case first =>
    go_region_held3 (fun w' => w'.cell? ⟨gg1, oo1, none⟩ = some (.bool s1) ∧ w'.cell? ⟨gg1, oo1 + 1, none⟩ = some (.slice p1 n1 q1) ∧ w'.cell? ⟨gg1, oo1 + 2, none⟩ = some (.slice d1 k1 e1) ∧ w'.cell? ⟨gg2, oo2, none⟩ = some (.bool s2) ∧ w'.cell? ⟨gg2, oo2 + 1, none⟩ = some (.slice p2 n2 q2) ∧ w'.cell? ⟨gg2, oo2 + 2, none⟩ = some (.slice d2 k2 e2))
      (first | exact hS.out noY _ t1 rfl rfl | exact hS.out noY _ (ExtX.alloc t1 _) rfl rfl | exact hS.out noY _ hEA rfl rfl | exact hS.out noY _ (hEA.trans t2) rfl rfl | exact hS.out (ob (some ⟨w.heap.size, 0, none⟩)) _ ((ExtX.of (hEA.trans t2)).trans hst.2) (ob_other (by omega)) (ob_other (by omega)) | exact hS.out (ob (some ⟨w6.heap.size, 0, none⟩)) _ ((ExtX.of (t1.alloc _)).trans hst.2) (ob_other (by have := t1.size; have h9 : w.drew.heap.size = w.heap.size := rfl; omega)) (ob_other (by have := t1.size; have h9 : w.drew.heap.size = w.heap.size := rfl; omega)) | go_keep)
      (first | (go_at_call 135; (with_reducible refine qd.mono ?_); rintro ee w6 ⟨t1, u6, rfl, hu6⟩; obtain ⟨s6, a6, n6, c6, d6, k6, e6, rfl⟩ := hu6.shape; have hst := (Bx.new w6 #[.bool false, .slice none 0 0, .slice none 0 0] 31).set3 (.bool s6) (.slice a6 n6 c6) (.slice d6 k6 e6)) | (go_at_call 135; (with_reducible refine qdA.mono ?_); rintro ee w6 ⟨t2, u6, rfl, hu6⟩; obtain ⟨s6, a6, n6, c6, d6, k6, e6, rfl⟩ := hu6.shape; have bb := bA.ext0 t2; have y0 := bb.cell 0 rfl; have y1 := bb.cell 1 rfl; have y2 := bb.cell 2 rfl; have z0 := bb.frozen 0; have z1 := bb.frozen 1; have z2 := bb.frozen 2; have hst := bb.set3 (.bool s6) (.slice a6 n6 c6) (.slice d6 k6 e6)))
    · clear k00 k01 k02 k10 k11 k12
      go_wp2_with fail
      go_meet
      case rel => exact ⟨w6.heap.size, _, _, _, _, _, _, _, rfl, Bx.new w6 _ _, (hEd.trans t1).size, QC.mono _ _ _ _ (mk_ext ((ExtX.refl w6).alloc _)) hu6, (hEd.trans t1).alloc _⟩
    · have hq7 := QC.mono _ _ _ _ (mk_sub (X := Z) fun k _ hk => un_left hk) (QC.mono _ _ _ _ (mk_mono hst.2 fun k hk => un_right hk) hu6)
      have hE7 : Ext w _ := ExtX.box (hEA2.trans t2) hst.2 (Nat.le_refl _)
      clear k00 k01 k02 k10 k11 k12 y0 y1 y2 z0 z1 z2
      go_wp2_with fail
      go_meet
      case rel => exact ⟨w.heap.size, _, _, _, _, _, _, _, rfl, hst.1, Nat.le_refl _, hq7, hE7⟩
  case rest =>
    obtain ⟨bf, sf, af, nf, cf, df, kf, ef, rfl, b6, hbf, hqf, hEw⟩ := hcut
    clear k00 k01 k02 k10 k11 k12 i1 i2 qd qdA hS bA hEA hEA2
    have hXc := hX.ext hEw
    have h1c := h1.ext0 QC.elem hEw
    have h2c := h2.ext0 QC.elem hEw
    have f0 := b6.cell 0 rfl
    have f1 := b6.cell 1 rfl
    have f2 := b6.cell 2 rfl
    have hqv := hqf.qv hb3'.out
    by_cases h0 : f = 0
    · have hr := hid (hE0.out h0)
      have hs0 : Hid (f.num.sign = 0) := hid (by rw [h0]; rfl)
      clear h0
      go_wp2_with fail
      refine (qsign Z wc _ f hXc hqv).mono ?_
      rintro e w7 ⟨hE7, rfl⟩
      rw [hs0.out]
      clear f0 f1 f2
      go_wp2_with fail
      refine bodyPost_ret (results_none rfl _ _ _) rfl ?_
      exact ⟨rfl, ExtX.of (hEw.trans hE7), by rw [hr.out]; exact h1c.ext0 QC.elem hE7⟩
    · have hs0 : ((f.num.sign : Int) == 0) = false := beqF (by intro h; exact h0 (Rat.num_eq_zero.1 (Int.sign_eq_zero_iff_zero.1 h)))
      clear h0
      go_wp2_with fail
      refine (qsign Z wc _ f hXc hqv).mono ?_
      rintro e w7 ⟨hE7, rfl⟩
      have b7 := b6.ext0 hE7
      have hqf7 := mkx QV.mono hqv hE7
      have hE07 := hEw.trans hE7
      have h17 := h1c.ext0 QC.elem hE7
      have h27 := h2c.ext0 QC.elem hE7
      clear f0 f1 f2 b6
      go_wp2_with fail
      go_loopw [27] (fun k wr => ∃ (j : Nat), k = .int .i64 j ∧ j ≤ n ∧ OL QC 3 (cut Z a1) base 31 wr a1 c1 (mix E row j) ∧ OL QC 3 (cut Z a2) base 31 wr a2 c2 piv ∧ Bx wr bf #[.bool sf, .slice af nf cf, .slice df kf ef] 31 ∧ QV (mk Z wr) (.agg #[.bool sf, .slice af nf cf, .slice df kf ef]) f ∧ ExtX (ob a1) w wr) (fun k _ => n - (intOf k).toNat)
      case atStart => exact ⟨0, rfl, Nat.zero_le _, by rw [mix_zero]; exact h17, h27, b7, hqf7, ExtX.of hE07⟩
      case round =>
        obtain ⟨j, rfl, hj, hO1, hO2, b7, hqf7, hE⟩ := hrel
        have hXr := hX.ext hE
        by_cases hlj : j < n
        · have hjr : j < row.length := by rw [hl1'.out]; exact hlj
          have hjp : j < piv.length := by rw [hl2'.out]; exact hlj
          have hjE : j < E.length := by rw [hEl.out]; exact hlj
          have hml : Hid ((mix E row j).length = n) := hid (by rw [mix_len hrE.out, hEl.out])
          have hjm : j < (mix E row j).length := by rw [hml.out]; exact hlj
          have hmg : Hid ((mix E row j)[j] = row[j]) := hid (by rw [mix_getElem hrE.out, if_neg (by omega)])
          have hjs : Hid ((mix E row j).set j E[j] = mix E row (j + 1)) := hid (mix_set hrE.out hjE)
          have hEj : Hid (row[j] - f * piv[j] = E[j]) := hid (hEi.out j hjr hjp hjE).symm
          have hbp := hid (hb2'.out piv[j] (List.getElem_mem _))
          have hbr := hid (hb1'.out row[j] (List.getElem_mem _))
          have hbm := hid (hb4'.out piv[j] (List.getElem_mem _))
          obtain ⟨x, hx⟩ : ∃ x, piv[j] = x := ⟨_, rfl⟩
          obtain ⟨y, hy⟩ : ∃ y, row[j] = y := ⟨_, rfl⟩
          obtain ⟨v, hv⟩ : ∃ v, E[j] = v := ⟨_, rfl⟩
          obtain ⟨r, hr⟩ : ∃ r, mix E row j = r := ⟨_, rfl⟩
          obtain ⟨gg, oo, sg, ap, np, cp, dp, kp, ep, hg, hog, hcc, hrr⟩ := hO1.rat QC.shaped j hjm
          rw [hmg.out, hy, hu1.out] at hrr
          rw [hx, hy, hv] at hEj
          rw [hx] at hbp hbm
          rw [hy] at hbr
          rw [hv, hr] at hjs
          rw [hr] at hO1 hjm hml
          have hxp := hid hx
          have i1 : ∀ W, (Instr.indexAt 33 (.slice a1 n c1) (.int .i64 (j : Int))).run Tryz.prog W = .ok (.pointer (some ⟨gg, oo, none⟩)) W := by rw [← hg]; exact run_indexAt_adr slRat a1 n c1 .i64 j hd1 (by omega)
          have bx := Bx.new wr #[.bool false, .slice none 0 0, .slice none 0 0] 31
          clear hx hy hv hr hmg
          go_wp2_with (first | (with_reducible refine up_ixn slRat (by omega) (by assumption) ?_) | ((with_reducible show wpList _ _ _ (⟨_, .load _ _, _, _, _, _⟩ :: _) _ _); refine st_loadOL stRat j hO2 hjp rfl (by simp) QC.agg ?_; intro u5 hu5; rw [hxp.out, hu2.out] at hu5; obtain ⟨s5, a5, n5, c5, d5, k5, e5, rfl⟩ := hu5.shape) | ((with_reducible show wpList _ _ _ (⟨_, .store _ _ _, _, _, _, _⟩ :: _) _ _); refine st_storeBox stRat rfl rfl bx rfl rfl (one3 _ _ _ _ _ _ _) ?_; intro w5 r1 r2))
          have hE5 : Ext wr w5 := ExtX.box ((ExtX.refl wr).alloc _) r2 (Nat.le_refl _)
          have hEd : Ext w5 w5.drew := (ExtX.refl w5).drew
          have hE5d := hE5.trans hEd
          have hO5 := hO1.ext0 QC.elem hE5d
          have hP5 := hO2.ext0 QC.elem hE5d
          have b5 := b7.ext0 hE5d
          have hx5 : QV (mk Z w5.drew) (.agg #[.bool s5, .slice a5 n5 c5, .slice d5 k5 e5]) x := (mkx QC.mono hu5 hE5d).qv hbp.out
          have hy5 : QV (mk Z w5.drew) (.agg #[.bool sg, .slice ap np cp, .slice dp kp ep]) y := (mkx QC.mono hrr hE5d).qv hbr.out
          have hf5 : QV (mk Z w5.drew) (.agg #[.bool sf, .slice af nf cf, .slice df kf ef]) f := mkx QV.mono hqf7 hE5d
          have hXd : HX Z w5.drew := hXr.ext hE5d
          obtain ⟨bw, hbw⟩ : ∃ bw, wr.heap.size = bw := ⟨_, rfl⟩
          have hab : Hid (ob a1 bw = false) := hid (by rw [← hbw]; exact hO1.ob_ge (Nat.le_refl _))
          have haf : Hid (ob a1 bf = false) := hid (by
            cases hb : ob a1 bf
            · rfl
            · have := (h1.block hb).2; omega)
          rw [hbw] at r1
          have hS : Hid (∀ Y W', ExtX Y w5.drew W' → Y gg = false → Y bf = false → Y bw = false → W'.cell? ⟨gg, oo, none⟩ = some (.bool sg) ∧ W'.cell? ⟨gg, oo + 1, none⟩ = some (.slice ap np cp) ∧ W'.cell? ⟨gg, oo + 2, none⟩ = some (.slice dp kp ep) ∧ W'.cell? ⟨bf, 0, none⟩ = some (.bool sf) ∧ W'.cell? ⟨bf, 1, none⟩ = some (.slice af nf cf) ∧ W'.cell? ⟨bf, 2, none⟩ = some (.slice df kf ef) ∧ W'.cell? ⟨bw, 0, none⟩ = some (.bool s5) ∧ W'.cell? ⟨bw, 1, none⟩ = some (.slice a5 n5 c5) ∧ W'.cell? ⟨bw, 2, none⟩ = some (.slice d5 k5 e5)) := hid fun Y W' h hy1 hy2 hy3 => by
            have z1 := hcc.out Y W' ((ExtX.of hE5d).trans h) hy1
            have z2 := b5.ext h hy2
            have z3 := (r1.ext0 hEd).ext h hy3
            exact ⟨z1.1, z1.2.1, z1.2.2, z2.cell 0 rfl, z2.cell 1 rfl, z2.cell 2 rfl, z3.cell 0 rfl, z3.cell 1 rfl, z3.cell 2 rfl⟩
          obtain ⟨k00, k01, k02, k10, k11, k12, k20, k21, k22⟩ := hS.out noY w5.drew (ExtX.refl _) rfl rfl rfl
          have hR5 := r1.ext0 hEd
          clear r1 bx hcc
          rw [hbw]
          go_wp2_with fail
          go_region_with (first | (go_at_call 98; (with_reducible refine (qmul Z w5.drew _ _ _ _ hXd hf5 hx5).mono ?_); rintro ee w6 ⟨t1, u6, rfl, hu6⟩; obtain ⟨s6, a6, n6, c6, d6, k6, e6, rfl⟩ := hu6.shape; have hX6 := hXd.ext t1; have hy6 := mkx QV.mono hy5 t1; have hm6 := hu6.qv hbm.out; obtain ⟨m0, m1, m2, _⟩ := hS.out noY w6 t1 rfl rfl rfl) | (go_at_call 193; (with_reducible refine (qsub Z w6 _ _ _ _ hX6 hy6 hm6).mono ?_); rintro ee w7 ⟨t7, u7, rfl, hu7⟩; obtain ⟨s7, a7, n7, c7, d7, k7, e7, rfl⟩ := hu7.shape; rw [hEj.out] at hu7; have t2 := t1.trans t7; have hO7 := hO5.ext0 QC.elem t2; obtain ⟨_, v0, v1, v2, _, ⟨g0, f0⟩, ⟨g1, f1⟩, ⟨g2, f2⟩, _⟩ := hO7.cell3 j hjm hg; have hset := hO7.set3 tyRat QC.elem j hjm hg (v0 := .bool s7) (v1 := .slice a7 n7 c7) (v2 := .slice d7 k7 e7) (x := v) (by rw [hu1.out]; exact hu7)))
          all_goals
            obtain ⟨q1, q2⟩ := hset
            rw [hjs.out] at q1
            have hP8 := (hP5.ext0 QC.elem t2).ext QC.elem q2 (fun k _ hk => cut_mk (hz1 k hk) (hdis k hk)) (fun _ _ hk => hk)
            have b8 := (b5.ext0 t2).ext q2 haf.out
            have hf8 : QV (mk Z _) _ _ := QV.mono _ _ _ _ (mk_mono q2 hz1) (mkx QV.mono hf5 t2)
            have hE8 := (hE.trans (ExtX.of (hE5d.trans t2))).trans q2
            clear k00 k01 k02 k10 k11 k12 k20 k21 k22 m0 m1 m2 g0 g1 g2 f0 f1 f2 i1
            go_wp2_with fail
            go_roundw
            case rel => exact ⟨j + 1, by go_num, by omega, q1, hP8, b8, hf8, hE8⟩
            case measure => simp [intOf]; omega
        · have hjn : j = n := by omega
          subst hjn
          rw [mix_full (by rw [hEl.out]; exact Nat.le_refl _) (by rw [hl1'.out]; exact Nat.le_refl _)] at hO1
          go_wp2_with fail
          go_end0
          exact ⟨rfl, hE, hO1⟩
end Go.Proofs.YtjbhcniiioepgaaGreat


namespace Go.Lin
def idxI : Option Nat → Int
  | none => -1
  | some k => k
end Go.Lin
namespace Go.Proofs.YtjbhcniiioepgaaGreat
open Go.RowKit Go.Rep Go.Lim Go.Lin

theorem closure_any (X : Nat → Bool) (w : World) (a : Option Addr) (l : List Rat) (n c col b : Nat) (hX : HX X w) (hs : Sl QC 3 (mk X w) a l) (hl : l.length = n) (hcol : col < n) (hB : BR 68719476736 l) (hb : w.cell? ⟨b, 0, none⟩ = some (.int .i64 (col : Int))) :
    Calls Tryz.prog 148 #[.slice a n c, .pointer (some ⟨b, 0, none⟩)] w (BOut w (decide (l.getD col 0 ≠ 0))) := by
  have hh : Hd a n := by have := hs.hd; rw [hl] at this; exact this
  have hcl : col < l.length := by omega
  have hsv := hs.qv hB
  obtain ⟨x, hx⟩ : ∃ x, l[col] = x := ⟨_, rfl⟩
  have hg : Hid (l.getD col 0 = x) := hid (by simp [List.getD_eq_getElem?_getD, hcl, hx])
  have hx' := hid hx
  clear hl hB hx
  rw [hg.out]
  by_cases h0 : x = 0
  · have hr : Hid (decide (x ≠ 0) = false) := hid (by simp [h0])
    have hs0 : Hid (x.num.sign = 0) := hid (by rw [h0]; rfl)
    rw [hr.out]
    clear h0
    go_enter Tryz.func148, Tryz.ntmps148
    go_wp2_with (first | (with_reducible refine up_ixn slRat (by omega) (by assumption) ?_) | ((with_reducible show wpList _ _ _ (⟨_, .load 31 _, _, _, _, _⟩ :: _) _ _); refine st_loadElem stRat col hsv hcl rfl (by simp) QV.agg ?_; intro u5 hu5; rw [hx'.out] at hu5; obtain ⟨s5, a5, n5, c5, d5, k5, e5, rfl⟩ := hu5.shape))
    refine (qsign X w _ x hX hu5).mono ?_
    rintro e w7 ⟨hE7, rfl⟩
    rw [hs0.out]
    go_wp2_with fail
    go_ret
    exact ⟨hE7, rfl⟩
  · have hr : Hid (decide (x ≠ 0) = true) := hid (by simp [h0])
    have hs0 : ((x.num.sign : Int) != 0) = true := bneT (by intro h; exact h0 (Rat.num_eq_zero.1 (Int.sign_eq_zero_iff_zero.1 h)))
    rw [hr.out]
    clear h0
    go_enter Tryz.func148, Tryz.ntmps148
    go_wp2_with (first | (with_reducible refine up_ixn slRat (by omega) (by assumption) ?_) | ((with_reducible show wpList _ _ _ (⟨_, .load 31 _, _, _, _, _⟩ :: _) _ _); refine st_loadElem stRat col hsv hcl rfl (by simp) QV.agg ?_; intro u5 hu5; rw [hx'.out] at hu5; obtain ⟨s5, a5, n5, c5, d5, k5, e5, rfl⟩ := hu5.shape))
    refine (qsign X w _ x hX hu5).mono ?_
    rintro e w7 ⟨hE7, rfl⟩
    generalize x.num.sign = sg at hs0
    go_wp2_with fail
    go_ret
    exact ⟨hE7, rfl⟩

set_option maxRecDepth 100000 in
theorem indexfunc_any (X : Nat → Bool) (w : World) (a : Option Addr) (l : List (List Rat)) (n c nc col b : Nat) (hX : HX X w) (hs : Sl RC 1 (mk X w) a l) (hl : l.length = n) (hn : n ≤ 1000000) (hr : ∀ r ∈ l, r.length = nc) (hcol : col < nc) (hB : BM 68719476736 l) (hb : w.cell? ⟨b, 0, none⟩ = some (.int .i64 (col : Int))) :
    Calls Tryz.prog 147 #[.slice a n c, .func (.func 148) #[] #[.pointer (some ⟨b, 0, none⟩)]] w (fun e w' => Ext w w' ∧ e = .returned (.int .i64 (idxI (l.findIdx? fun r => decide (r.getD col 0 ≠ 0))))) := by
  have hh : Hd a n := by have := hs.hd; rw [hl] at this; exact this
  have hl' := hid hl
  have hr' := hid hr
  have hB' := hid hB
  have hres1 : Hid (∀ i (hi : i < l.length), (∀ q (hq : q < l.length), q < i → l[q].getD col 0 = 0) → l[i].getD col 0 ≠ 0 → l.findIdx? (fun r => decide (r.getD col 0 ≠ 0)) = some i) := hid fun i hi h1 h2 => by
    rw [List.findIdx?_eq_some_iff_getElem]
    exact ⟨hi, by simpa using h2, fun q hq => by simpa using h1 q (by omega) hq⟩
  have hres2 : Hid ((∀ q (hq : q < l.length), l[q].getD col 0 = 0) → l.findIdx? (fun r => decide (r.getD col 0 ≠ 0)) = none) := hid fun h1 => by
    rw [List.findIdx?_eq_none_iff]
    intro r hr
    obtain ⟨q, hq, rfl⟩ := List.getElem_of_mem hr
    simpa using h1 q hq
  obtain ⟨F, hF⟩ : ∃ F, l.findIdx? (fun r => decide (r.getD col 0 ≠ 0)) = F := ⟨_, rfl⟩
  rw [hF] at hres1 hres2 ⊢
  clear hl hr hB hF
  go_enter Tryz.func147, Tryz.ntmps147
  go_wp2_with fail
  go_loopw [8] (fun k wr => ∃ (i : Nat), k = .int .i64 i ∧ i ≤ n ∧ Hid (∀ q (hq : q < l.length), q < i → l[q].getD col 0 = 0) ∧ Ext w wr) (fun k _ => n - (intOf k).toNat)
  case atStart => exact ⟨0, rfl, Nat.zero_le _, hid (fun q hq h => by omega), ExtX.refl _⟩
  case round =>
    obtain ⟨i, rfl, hi, hok, hE⟩ := hrel
    by_cases hlt : i < n
    · have hil : i < l.length := by rw [hl'.out]; exact hlt
      obtain ⟨a1, c1, hX1, hc1, hcl1, hq1⟩ := (hs.mono RC.mono (mk_ext hE)).row i hil
      have k00 := hc1.out noY wr (ExtX.refl _) rfl
      have hrl := hid (hr'.out l[i] (List.getElem_mem _))
      have hbl := hid (hB'.out l[i] (List.getElem_mem _))
      rw [hrl.out] at k00
      have hcell := hE.cell hb
      have hcall := closure_any X wr a1 l[i] nc c1 col b (hX.ext hE) hq1 hrl.out hcol hbl.out hcell
      by_cases h0 : l[i].getD col 0 = 0
      · have hd : Hid (decide (l[i].getD col 0 ≠ 0) = false) := hid (decide_eq_false (fun h => h h0))
        rw [hd.out] at hcall
        have hok2 : Hid (∀ q (hq : q < l.length), q < i + 1 → l[q].getD col 0 = 0) := hid fun q hq hqi => by
          by_cases e : q = i
          · subst e; exact h0
          · exact hok.out q hq (by omega)
        clear h0 hc1 hq1
        go_wp2_with (with_reducible refine up_ix1 slRats (by omega) (by assumption) ?_)
        refine hcall.mono ?_
        rintro e w5 ⟨hE5, rfl⟩
        clear k00
        go_wp2_with fail
        go_roundw
        case rel => exact ⟨i + 1, by go_num, by omega, hok2, hE.trans hE5⟩
        case measure => simp [intOf]; omega
      · have hd : Hid (decide (l[i].getD col 0 ≠ 0) = true) := hid (decide_eq_true h0)
        rw [hd.out] at hcall
        have hf := hid (hres1.out i hil (fun q hq hqi => hok.out q hq hqi) h0)
        clear h0 hc1 hq1
        go_wp2_with (with_reducible refine up_ix1 slRats (by omega) (by assumption) ?_)
        refine hcall.mono ?_
        rintro e w5 ⟨hE5, rfl⟩
        clear k00
        go_wp2_with fail
        go_ret
        exact ⟨hE.trans hE5, ret_int (by rw [hf.out]; rfl)⟩
    · have hf := hid (hres2.out fun q hq => hok.out q hq (by rw [hl'.out] at hq; omega))
      go_wp2_with fail
      go_ret
      exact ⟨hE, ret_int (by rw [hf.out]; rfl)⟩
end Go.Proofs.YtjbhcniiioepgaaGreat


namespace Go.Lin
theorem getD_row {m : Mat} {i : Nat} (h : i < m.length) : m.getD i [] = m[i] := by simp [List.getD_eq_getElem?_getD, h]
theorem clear_zero (m : Mat) (t col : Nat) : clear m t col 0 = m := by
  unfold clear rows
  refine List.ext_getElem (by simp) fun q h1 h2 => ?_
  rw [List.getElem_mapIdx, if_neg (by omega)]
theorem clear_get {m : Mat} {t col s i : Nat} (h : i < (clear m t col s).length) (h2 : i < m.length) : (clear m t col s)[i] = if t < i ∧ i < t + 1 + s then elimL m[i] (m.getD t []) col else m[i] := by
  show (m.mapIdx _)[i]'(by simpa using h2) = _
  rw [List.getElem_mapIdx]
theorem clear_len (m : Mat) (t col s : Nat) : (clear m t col s).length = m.length := by simp [clear, rows]
theorem clear_set {m : Mat} {t col s : Nat} (h : t + 1 + s < m.length) : (clear m t col s).set (t + 1 + s) (elimL m[t + 1 + s] (m.getD t []) col) = clear m t col (s + 1) := by
  refine List.ext_getElem (by simp [clear_len]) fun q h1 h2 => ?_
  have hq : q < m.length := by rw [clear_len] at h2; exact h2
  rw [List.getElem_set, clear_get h2 hq]
  split
  · subst_vars; rw [if_pos (by omega)]
  · rw [clear_get (by simpa [clear_len] using hq) hq]
    by_cases a : t < q ∧ q < t + 1 + s
    · rw [if_pos a, if_pos (by omega)]
    · rw [if_neg a, if_neg (by omega)]
theorem clear_full {m : Mat} {t col s s' : Nat} (h : m.length ≤ t + 1 + s) (h' : m.length ≤ t + 1 + s') : clear m t col s = clear m t col s' := by
  refine List.ext_getElem (by simp [clear_len]) fun q h1 h2 => ?_
  have hq : q < m.length := by rw [clear_len] at h2; exact h2
  rw [clear_get h1 hq, clear_get h2 hq]
  by_cases a : t < q
  · rw [if_pos (by omega), if_pos (by omega)]
  · rw [if_neg (by omega), if_neg (by omega)]
theorem above_zero (m : Mat) (t col : Nat) : above m t col 0 = m := by
  unfold above rows
  refine List.ext_getElem (by simp) fun q h1 h2 => ?_
  rw [List.getElem_mapIdx, if_neg (by omega)]
theorem above_get {m : Mat} {t col s i : Nat} (h : i < (above m t col s).length) (h2 : i < m.length) : (above m t col s)[i] = if i < t ∧ i < s then elimL m[i] (m.getD t []) col else m[i] := by
  show (m.mapIdx _)[i]'(by simpa using h2) = _
  rw [List.getElem_mapIdx]
theorem above_len (m : Mat) (t col s : Nat) : (above m t col s).length = m.length := by simp [above, rows]
theorem above_set {m : Mat} {t col s : Nat} (h : s < m.length) (hst : s < t) : (above m t col s).set s (elimL m[s] (m.getD t []) col) = above m t col (s + 1) := by
  refine List.ext_getElem (by simp [above_len]) fun q h1 h2 => ?_
  have hq : q < m.length := by rw [above_len] at h2; exact h2
  rw [List.getElem_set, above_get h2 hq]
  split
  · subst_vars; rw [if_pos (by omega)]
  · rw [above_get (by simpa [above_len] using hq) hq]
    by_cases a : q < t ∧ q < s
    · rw [if_pos a, if_pos (by omega)]
    · rw [if_neg a, if_neg (by omega)]
end Go.Lin
namespace Go.Rep
open Go.RowKit Go.Lim Go.Lin
theorem obs_swap {hs : List Hdr} {i k : Nat} (hi : i < hs.length) (hk : k < hs.length) : obs ((hs.set i hs[k]).set k hs[i]) = obs hs := by
  funext b
  rw [Bool.eq_iff_iff]
  constructor
  · intro h
    obtain ⟨q, hq, h2⟩ := obs_of h
    simp only [List.length_set] at hq
    rw [List.getElem_set] at h2
    split at h2
    · exact obs_get hi h2
    · rw [List.getElem_set] at h2
      split at h2
      · exact obs_get hk h2
      · exact obs_get hq h2
  · intro h
    obtain ⟨q, hq, h2⟩ := obs_of h
    by_cases a : q = i
    · subst a
      refine obs_get (i := k) (by simpa using hk) ?_
      rw [List.getElem_set_self]; exact h2
    · by_cases b' : q = k
      · subst b'
        refine obs_get (i := i) (by simpa using hi) ?_
        rw [List.getElem_set_ne (by omega), List.getElem_set_self]; exact h2
      · refine obs_get (i := q) (by simpa using hq) ?_
        rw [List.getElem_set_ne (by omega), List.getElem_set_ne (by omega)]; exact h2
section
variable {X : Nat → Bool} {base : Nat} {e1 e2 : TypeId} {w w' : World} {ao : Option Addr} {cap : Nat} {hs : List Hdr} {m : List (List Rat)}
theorem swapL_get {m : Mat} {i k q : Nat} (hi : i < m.length) (hk : k < m.length) (hq : q < (swapL m i k).length) : (swapL m i k)[q] = if q = k then m[i] else if q = i then m[k] else m[q]'(by simpa [swapL] using hq) := by
  simp only [swapL, getD_row hi, getD_row hk]
  rw [List.getElem_set]
  by_cases a : k = q
  · rw [if_pos a, if_pos a.symm]
  · rw [if_neg a, if_neg (Ne.symm a), List.getElem_set]
    by_cases b : i = q
    · rw [if_pos b, if_pos b.symm]
    · rw [if_neg b, if_neg (Ne.symm b)]
theorem hset_get {hs : List Hdr} {i k q : Nat} (hi : i < hs.length) (hk : k < hs.length) (hq : q < ((hs.set i hs[k]).set k hs[i]).length) : ((hs.set i hs[k]).set k hs[i])[q] = if q = k then hs[i] else if q = i then hs[k] else hs[q]'(by simpa using hq) := by
  rw [List.getElem_set]
  by_cases a : k = q
  · rw [if_pos a, if_pos a.symm]
  · rw [if_neg a, if_neg (Ne.symm a), List.getElem_set]
    by_cases b : i = q
    · rw [if_pos b, if_pos b.symm]
    · rw [if_neg b, if_neg (Ne.symm b)]
theorem MO.swap (h : MO X base e1 e2 w ao cap hs m) {i k : Nat} (hi : i < hs.length) (hk : k < hs.length) (hE : ExtX (ob ao) w w') (ho : OL HdR 1 X base e1 w' ao cap ((hs.set i hs[k]).set k hs[i])) : MO X base e1 e2 w' ao cap ((hs.set i hs[k]).set k hs[i]) (swapL m i k) := by
  have hl := h.len
  refine h.perm (fun q => if q = k then i else if q = i then k else q) (fun q hq => ?_) (fun a b ha hb hab => ?_) (fun q hq => ?_) (by simp) (by simp [swapL]) (fun q hq hq' => ?_) (fun q hq hq' => ?_) hE ho
  · split
    · exact hi
    · split
      · exact hk
      · exact hq
  · split at hab <;> split at hab <;> (try split at hab) <;> (try split at hab) <;> omega
  · by_cases a : q = i
    · exact ⟨k, hk, by simp [a]⟩
    · by_cases b : q = k
      · refine ⟨i, hi, ?_⟩
        by_cases c : i = k
        · omega
        · simp [c, b]
      · exact ⟨q, hq, by simp [a, b]⟩
  · rw [hset_get hi hk hq]
    by_cases a : q = k
    · simp [a]
    · by_cases b : q = i
      · subst b; simp [a]
      · simp [a, b]
  · rw [swapL_get (by omega) (by omega) hq]
    by_cases a : q = k
    · simp [a]
    · by_cases b : q = i
      · subst b; simp [a]
      · simp [a, b]
end
section
variable {P : Program} {ops : Array Oper} {Q : Exit → Act → World → Prop} {rest : List Oper} {a : Act} {w : World}
variable {d : Option Tmp} {ty : TypeId} {ps : String} {af : Array Edge}
/-- 'x[i:]', with what its addresses are. -/
theorem st_fromA {t e by_ : Nat} {z : Value} {x lo : Operand} {k1 : IntKind} {m : Int} {ao : Option Addr} {cap : Nat} (T : SliceT P t e 1 by_ z) (n i : Nat) (hx : a.eval x = .slice ao n cap) (hlo : a.eval lo = .int k1 m) (hm : m = (i : Int)) (hd : Hd ao n) (hi : i ≤ n) (hc : n ≤ cap)
    (K : ∀ ao', (∀ k, k < n - i → adr ao' k = adr ao (i + k)) → Hd ao' (n - i) → wpList P ops Q rest (a.put d (.slice ao' (n - i) (cap - i))) w) :
    wpList P ops Q (⟨d, .slice t x (some lo) none none, ty, ps, af, none⟩ :: rest) a w := by
  refine wpList_plain rfl fun K' hK' => ?_
  subst hm
  have hr := run_slice_i (P := P) (ao := ao) T n cap k1 i hi hc w
  have := K (subAddr ao i cap 1) (fun k hk => by
    obtain ⟨b, off, rfl⟩ := hd (by omega)
    have hm : ¬ cap = i := by omega
    simp [subAddr, hm, Addr.add_lit, adr, Nat.add_assoc]) (fun hn => by
    obtain ⟨b, off, rfl⟩ := hd (by omega)
    have hm : ¬ cap = i := by omega
    exact ⟨b, off + i * 1, by simp [subAddr, hm, Addr.add_lit]⟩)
  unfold Oper.wp
  simp [execOp, hx, hlo, hr, Result.andThen]
  exact hK' _ _ this
end
end Go.Rep


namespace Go.Lin
theorem eN_succ (m : Mat) (k : Nat) : eN m (k + 1) = eStep (eN m k) k := rfl
/-- Bounds that an elimination wants. -/
theorem elim_bounds {n c B t i col : Nat} {m : Mat} (hs : Shp n c m) (h : HB B m) (ht : t < n) (hi : i < n) (hB : 5 * B ≤ 68719476736) :
    Go.Rep.BR 68719476736 (m.getD i []) ∧ Go.Rep.BR 68719476736 (m.getD t []) ∧ Go.Lim.hq ((m.getD i []).getD col 0 / (m.getD t []).getD col 0) ≤ 68719476736 ∧ ∀ x ∈ m.getD t [], Go.Lim.hq ((m.getD i []).getD col 0 / (m.getD t []).getD col 0 * x) ≤ 68719476736 := by
  have hrow : ∀ k, Go.Rep.BR B (m.getD k []) := fun k q hq => by
    obtain ⟨j, hj, rfl⟩ := List.getElem_of_mem hq
    have e : (m.getD k []).getD j 0 = (m.getD k [])[j] := by rw [List.getD_eq_getElem?_getD, List.getElem?_eq_getElem hj]; rfl
    rw [← e]; exact h k j
  have h1 := h i col
  have h2 := h t col
  unfold ent at h1 h2
  have h3 := Go.Lim.hq_div ((m.getD i []).getD col 0) ((m.getD t []).getD col 0)
  refine ⟨fun q hq => Nat.le_trans (hrow i q hq) (by omega), fun q hq => Nat.le_trans (hrow t q hq) (by omega), by omega, fun x hx => ?_⟩
  have h4 := hrow t x hx
  have h5 := Go.Lim.hq_mul ((m.getD i []).getD col 0 / (m.getD t []).getD col 0) x
  omega
theorem HB.bm {B : Nat} {m : Mat} (h : HB B m) : Go.Rep.BM B m := fun r hr q hq => by
  obtain ⟨i, hi, rfl⟩ := List.getElem_of_mem hr
  obtain ⟨j, hj, rfl⟩ := List.getElem_of_mem hq
  have := h i j
  simpa [ent, List.getD_eq_getElem?_getD, hi, hj] using this
end Go.Lin
namespace Go.Rep
theorem Sl.fromA {α : Type} {R : Mem → Value → α → Prop} {h : Mem} {ao ao' : Option Addr} {l : List α} (s : Sl R 1 h ao l) (i : Nat) (ha : ∀ k, k < l.length - i → adr ao' k = adr ao (i + k)) (hd : Hd ao' (l.length - i)) : Sl R 1 h ao' (l.drop i) := by
  refine ⟨by rw [List.length_drop]; exact hd, fun k hk => ?_⟩
  rw [List.length_drop] at hk
  obtain ⟨u, h1, h2, h3⟩ := s.2 (i + k) (by omega)
  refine ⟨u, h1, fun j hj => ?_, by simpa using h3⟩
  have hj0 : j = 0 := by omega
  subst hj0
  have := h2 0 hj
  simp only [Nat.mul_one, Nat.add_zero] at this ⊢
  rw [ha k hk]; exact this
theorem map_adr {ao : Option Addr} {n i : Nat} (hd : Hd ao n) (hn : 0 < n) (k : Nat) : adr (Option.map (fun x => x.add i) ao) k = adr ao (i + k) := by
  obtain ⟨b, off, rfl⟩ := hd hn
  simp [Addr.add_lit, adr, Nat.add_assoc]
theorem NatIn.pure (k : IntKind) : ∀ h h' u x, NatIn k h u x → NatIn k h' u x := fun _ _ _ _ h => h
theorem map_hd {ao : Option Addr} {n i m : Nat} (hd : Hd ao n) (hn : 0 < n) : Hd (Option.map (fun x => x.add i) ao) m := fun _ => by
  obtain ⟨b, off, rfl⟩ := hd hn
  exact ⟨b, off + i, by simp [Addr.add_lit]⟩
end Go.Rep
namespace Go.Proofs.YtjbhcniiioepgaaGreat
open Go.RowKit Go.Rep Go.Lim Go.Lin

/-- What echelon leaves: the pivots, and the rows turned. -/
def ChOut (X : Nat → Bool) (base : Nat) (w : World) (ao : Option Addr) (cap : Nat) (hs : List Hdr) (s : St) (e : Ending) (w' : World) : Prop :=
  ExtX (mb ao hs) w w' ∧ ∃ po pc hs', e = .returned (.tuple #[.slice po s.2.1.length pc, .bool s.2.2]) ∧ mb ao hs' = mb ao hs ∧ MO (un X po) base 33 31 w' ao cap hs' s.1 ∧ OL (NatIn .i64) 1 (mz X ao hs) w.heap.size 3 w' po pc s.2.1

set_option maxRecDepth 100000 in
set_option maxHeartbeats 1600000 in
theorem echelon_any (X : Nat → Bool) (base : Nat) (w : World) (ao : Option Addr) (cap n c : Nat) (hs : List Hdr) (m : List (List Rat)) (hX : HX X w) (hM : MO X base 33 31 w ao cap hs m) (hsh : Shp n c m) (hc : colsL m = c) (hn : n ≤ 900) (hcc : c ≤ 900) (hT : TameE m c) :
    Calls Tryz.prog 95 #[.slice ao n cap] w (ChOut X base w ao cap hs (eN m c)) := by
  have hml := hid hsh.1
  have hmc : MC (mk X w) (.slice ao n cap) m := by have := hM.mc; rw [hml.out] at this; exact this
  have hcol := columns_any X w _ m hmc
  rw [hc] at hcol
  have hlen := hid (hM.len.trans hml.out)
  have hcap : n ≤ cap := by have := hM.capLen; rw [hml.out] at this; exact this
  have hhO : Hd ao n := by have := hM.outer.hd; rw [hlen.out] at this; exact this
  have hn0 : Hid (n = 0 → c = 0) := hid fun h => by
    have : m = [] := List.eq_nil_of_length_eq_zero (by rw [hml.out]; exact h)
    rw [← hc, this]; rfl
  have hsh' := hid hsh
  obtain ⟨B, hB7, hBj⟩ := hT
  have hB' := hid hBj
  have hBB' := hid hB7
  have hund : un X none = X := by funext k; simp [un, ob]
  have hMu : MO (un X none) base 33 31 w ao cap hs m := by rw [hund]; exact hM
  have hXz := hM.hz hX
  clear hsh hBj hB7 hc hmc
  go_enter Tryz.func95, Tryz.ntmps95
  go_wp2_with fail
  refine hcol.mono ?_
  rintro e w1 ⟨rfl, rfl⟩
  clear hcol
  go_wp2_with fail
  go_loopw [2, 3, 11] (fun p o k wr => ∃ (j : Nat) (po : Option Addr) (pc pl : Nat) (hs' : List Hdr) (M : Mat) (P : List Nat) (od : Bool), k = .int .i64 j ∧ p = .slice po pl pc ∧ o = .bool od ∧ j ≤ c ∧ Hid (P.length = pl) ∧ Hid (eN m j = (M, P, od)) ∧ Hid (j < c → pl < n) ∧ MO (un X po) base 33 31 wr ao cap hs' M ∧ OL (NatIn .i64) 1 (mz X ao hs) w1.heap.size 3 wr po pc P ∧ Hid (mb ao hs' = mb ao hs) ∧ ExtX (mb ao hs) w1 wr) (fun _ _ k _ => c - (intOf k).toNat)
  case atStart => exact ⟨0, none, 0, 0, hs, m, [], false, rfl, rfl, rfl, Nat.zero_le _, hid rfl, hid rfl, hid (fun h => by have := hn0.out; omega), hMu, OL.nil _ _ _ _ _ _, hid rfl, ExtX.refl _⟩
  case round =>
    obtain ⟨j, po, pc, pl, hs', M, P, od, rfl, rfl, rfl, hj, hpl, hst, hpn, hM, hP, hmb, hE⟩ := hrel
    by_cases hlj : j < c
    · have hpn2 := hpn.out hlj
      have hok := eN_ok hsh'.out j
      rw [hst.out] at hok
      have hshM : Shp n c M := hok.shp
      have hMl := hid hshM.1
      have hhl := hid (hM.len.trans hMl.out)
      have hXr : HX X wr := hX.ext hE
      have hXu : HX (un X po) wr := fun k hk => by
        by_cases hx : X k = true
        · exact hXr k hx
        · exact (hP.block (by simpa [un, hx] using hk)).2
      have hBM : HB B M := by have := hB'.out j (by omega); rw [hst.out] at this; exact this
      have hb5' : 5 * B ≤ 68719476736 := by have := hBB'.out; omega
      have hBM2 := hid (hBM.bm)
      have hEb : Ext wr (wr.alloc (.cells #[.int .i64 (j : Int)] 3)) := (ExtX.refl wr).alloc _
      have hbx : (wr.alloc (.cells #[.int .i64 (j : Int)] 3)).cell? ⟨wr.heap.size, 0, none⟩ = some (.int .i64 (j : Int)) := cell_new 0 rfl
      have hM1 := hM.ext0 hEb
      have hP1 := hP.ext0 (NatIn.elem _) hEb
      have hX1 := hXu.ext hEb
      have hSl : Sl RC 1 (mk (un X po) (wr.alloc (.cells #[.int .i64 (j : Int)] 3))) ao M := by
        obtain ⟨_, _, heq, _, h3⟩ := hM1.mc
        simp only [Value.slice.injEq] at heq
        obtain ⟨rfl, _, rfl⟩ := heq
        exact h3
      obtain ⟨bw, hbw⟩ : ∃ bw, wr.heap.size = bw := ⟨_, rfl⟩
      obtain ⟨w2, hw2⟩ : ∃ w2, wr.alloc (.cells #[.int .i64 (j : Int)] 3) = w2 := ⟨_, rfl⟩
      rw [hw2] at hEb hbx hM1 hP1 hX1 hSl
      rw [hbw] at hbx
      have hpbw : Hid (ob po bw = false) := hid (by rw [← hbw]; exact hP.ob_ge (Nat.le_refl _))
      have hobw : Hid (ob ao bw = false) := hid (by rw [← hbw]; exact hM.outer.ob_ge (Nat.le_refl _))
      have hw2' := hid hw2
      have hbw' := hid hbw
      have hn1 : 0 < n := by omega
      have hmd : Hid (n - pl = (M.drop pl).length) := hid (by rw [List.length_drop, hMl.out])
      have hSd : Sl RC 1 (mk (un X po) w2) (Option.map (fun x => x.add pl) ao) (M.drop pl) := hSl.fromA pl (fun k _ => map_adr hhO hn1 k) (map_hd hhO hn1)
      have hrows : Hid (∀ r ∈ M.drop pl, r.length = c) := hid fun r hr => hshM.2 r (List.mem_of_mem_drop hr)
      have hbmd : Hid (BM 68719476736 (M.drop pl)) := hid fun r hr q hq => Nat.le_trans (hBM2.out r (List.mem_of_mem_drop hr) q hq) (by omega)
      have hix := indexfunc_any (un X po) w2 _ (M.drop pl) (n - pl) (cap - pl) c j bw hX1 hSd hmd.out.symm (by omega) hrows.out hlj hbmd.out hbx
      obtain ⟨F, hF⟩ : ∃ F, (M.drop pl).findIdx? (fun r => decide (r.getD j 0 ≠ 0)) = F := ⟨_, rfl⟩
      rw [hF] at hix
      have hnz : Hid (nzAt M P.length j = F) := hid (by rw [hpl.out]; exact hF)
      clear hF hSd hSl
      go_wp2_with fail
      refine hix.mono ?_
      rintro e w3 ⟨hE3, rfl⟩
      have hM3 := hM1.ext0 hE3
      have hP3 := hP1.ext0 (NatIn.elem _) hE3
      have hb3 := hE3.cell hbx
      have hE03 := hE.trans (ExtX.of (hEb.trans hE3))
      clear hM1 hP1 hix hbx hw2
      match F, hnz with
      | none, hnz =>
        have hst2 : Hid (eN m (j + 1) = (M, P, od)) := hid (by
          rw [eN_succ, hst.out]; unfold eStep; dsimp only
          split
          · rfl
          · rw [hnz.out])
        simp only [idxI]
        go_wp2_with fail
        go_roundw
        case rel => exact ⟨j + 1, po, pc, pl, hs', M, P, od, by go_num, rfl, rfl, by omega, hpl, hst2, hid (fun _ => hpn2), hM3, hP3, hmb, hE03⟩
        case measure => simp [intOf]; omega
      | some q, hnz =>
        obtain ⟨hq1, hq2⟩ := nzAt_some hnz.out
        rw [hpl.out, hMl.out] at hq1
        have hq0 : ¬ (q : Int) < 0 := by omega
        simp only [idxI]
        clear hq2
        have hr1 : pl + q < hs'.length := by rw [hhl.out]; exact hq1
        have hr2 : pl < hs'.length := by rw [hhl.out]; exact hpn2
        obtain ⟨a1, n1, c1, hh1⟩ : ∃ a n c, hs'[pl] = (a, n, c) := ⟨_, _, _, rfl⟩
        obtain ⟨a2, n2, c2, hh2⟩ : ∃ a n c, hs'[pl + q] = (a, n, c) := ⟨_, _, _, rfl⟩
        have hO0 := hM3.outer
        obtain ⟨z1, zf1⟩ := hM3.hdr pl hr2
        obtain ⟨z2, zf2⟩ := hM3.hdr (pl + q) hr1
        rw [hh1] at z1
        rw [hh2] at z2
        dsimp only at z1 z2
        have k1 : w3.cell? (adr ao pl) = some (.slice a1 n1 c1) := z1
        have k2 : w3.cell? (adr ao (pl + q)) = some (.slice a2 n2 c2) := z2
        have f1 : w3.frozen? (adr ao pl) = false := zf1
        have f2 : w3.frozen? (adr ao (pl + q)) = false := zf2
        obtain ⟨hO1, hE4⟩ := hO0.set1 tyRats HdR.elem HdR.one pl hr2 (.slice a2 n2 c2) (a2, n2, c2) rfl
        obtain ⟨u3, k3, f3, hu3⟩ := hO1.cell HdR.one (pl + q) (by simpa using hr1)
        have hu3' : u3 = .slice a2 n2 c2 := by
          have e : (hs'.set pl (a2, n2, c2))[pl + q]'(by simpa using hr1) = (a2, n2, c2) := by
            rw [List.getElem_set]; split
            · rfl
            · exact hh2
          rw [e] at hu3; exact hu3
        rw [hu3'] at k3
        obtain ⟨hO2, hE5⟩ := hO1.set1 tyRats HdR.elem HdR.one (pl + q) (by simpa using hr1) (.slice a1 n1 c1) (a1, n1, c1) rfl
        have hE6 := (hE4.trans hE5).drew
        have hO2 := hO2.ext0 HdR.elem (ExtX.refl (Y := noY) _).drew
        rw [← hh1, ← hh2] at hO2
        have i1 : ∀ W, (Instr.indexAt 23 (.slice ao n cap) (.int .i64 (pl : Int))).run Tryz.prog W = .ok (.pointer (some (adr ao pl))) W := run_ix1 slRats ao n cap .i64 pl hhO (by omega) rfl
        have i2 : ∀ W, (Instr.indexAt 23 (.slice ao n cap) (.int .i64 ((pl : Int) + (q : Int)))).run Tryz.prog W = .ok (.pointer (some (adr ao (pl + q)))) W := run_ix1 slRats ao n cap .i64 (pl + q) hhO (by omega) (by omega)
        have ew : IntKind.i64.wrap ((pl : Int) + (q : Int)) = (pl : Int) + (q : Int) := IntWalk.i64_in _ (by omega)
        have hM5 := hM3.swap hr2 hr1 hE6 hO2
        have hX5 := hX1.ext hE3
        have hP5 : OL (NatIn .i64) 1 (mz X ao hs) w1.heap.size 3 _ po pc P := hP3.frame (NatIn.pure _) hE6 (fun k hk => by
          cases hb : ob ao k
          · rfl
          · have := (hM3.out_sep hb).1; rw [un_right hk] at this; simp at this) hP3.1
        have hb5 := hE6.cellY hb3 hobw.out
        clear hu3 hu3' hO0 hO1 hO2 z1 z2 zf1 zf2 hh1 hh2 hE4 hE5
        go_wp2_with fail
        go_region
        obtain ⟨w5, hw5⟩ : ∃ w5, ((w3.setCell (adr ao pl) (.slice a2 n2 c2)).setCell (adr ao (pl + q)) (.slice a1 n1 c1)).drew = w5 := ⟨_, rfl⟩
        rw [hw5] at hM5 hP5 hb5 hE6 ⊢
        have hE05 := hE03.trans (ExtX.weaken hE6 fun k _ hk => (ob_mb hk).1)
        have hX5 := hX5.ext hE6
        have hXz5 := hXz.ext hE05
        have hbase5 := hE05.size
        clear k1 k2 k3 f1 f2 f3 i1 i2 hw5 hb3
        have hpl5 : pl + 1 ≤ n := hpn2
        go_wp2_with (first | ((with_reducible show wpList _ _ _ (⟨_, .slice _ _ _ _ _, _, _, _, _⟩ :: _) _ _); refine st_fromA slRats n (pl + 1) rfl rfl (by omega) hhO hpl5 hcap ?_; intro ao3 ha3 hd3; replace ha3 := hid ha3) | (at_builtin; refine st_append1n (l := P) slInt rfl (NatIn.elem .i64) hbase5 hXz5 pl hpl.out rfl rfl hP5 (.int .i64 (j : Int)) j rfl rfl (by omega) (by omega) ?_; intro po2 pc2 w6 hP6 hE7 hor; have b6 := hE7.cellY hb5 hpbw.out))
        have hM6 : MO (un X po2) base 33 31 w6 ao cap _ _ := hM5.ext (X' := un X po2) hE7 (fun k _ hk => un_right hk) (fun k hk hz => by
          by_cases hx : X k = true
          · exact un_left hx
          · have h2 : ob po2 k = true := by simpa [un, hx] using hz
            rcases hor with rfl | ⟨g, rfl, hg⟩
            · exact un_right h2
            · have : g = k := by simpa [ob] using h2
              omega)
        have hE06 : ExtX (mb ao hs) w1 w6 := hE05.then_ hE7 fun k hk _ => hP5.ob_lt hk
        have hmb2 : Hid (mb ao ((hs'.set pl hs'[pl + q]).set (pl + q) hs'[pl]) = mb ao hs) := hid (by rw [← hmb.out]; exact (obs_congr (X := X) fun k => by rw [obs_swap hr2 hr1]).1)
        have hh2l : Hid (((hs'.set pl hs'[pl + q]).set (pl + q) hs'[pl]).length = n) := hid (by simp [hhl.out])
        have hsh2 : Shp n c (swapL M pl (pl + q)) := hshM.swap hpn2 hq1
        have hBM2' : HB B (swapL M pl (pl + q)) := hBM.swap hshM hpn2 hq1
        have hst2 : Hid (eN m (j + 1) = (clear (swapL M pl (pl + q)) pl j n, P ++ [j], od != decide (q ≠ 0))) := hid (by
          rw [eN_succ, hst.out]; unfold eStep; dsimp only
          rw [if_neg (by rw [hpl.out, hMl.out]; omega), hnz.out]
          dsimp only
          rw [hpl.out, hMl.out])
        have hbnd : Hid (∀ i, i < n → BR 68719476736 ((swapL M pl (pl + q)).getD i []) ∧ BR 68719476736 ((swapL M pl (pl + q)).getD pl []) ∧ hq (((swapL M pl (pl + q)).getD i []).getD j 0 / ((swapL M pl (pl + q)).getD pl []).getD j 0) ≤ 68719476736 ∧ ∀ x ∈ (swapL M pl (pl + q)).getD pl [], hq (((swapL M pl (pl + q)).getD i []).getD j 0 / ((swapL M pl (pl + q)).getD pl []).getD j 0 * x) ≤ 68719476736) := hid fun i hi => elim_bounds hsh2 hBM2' hpn2 hi hb5'
        have hmbw : Hid (mb ao hs bw = false) := hid (by
          rw [← hmb.out]
          cases hb : mb ao hs' bw
          · rfl
          · have := (hM.mb_block hb).2; omega)
        obtain ⟨hs2, hhs2⟩ : ∃ hs2, (hs'.set pl hs'[pl + q]).set (pl + q) hs'[pl] = hs2 := ⟨_, rfl⟩
        obtain ⟨M2, hM2⟩ : ∃ M2, swapL M pl (pl + q) = M2 := ⟨_, rfl⟩
        rw [hhs2] at hM6 hmb2 hh2l
        rw [hM2] at hM6 hsh2 hBM2' hst2 hbnd
        clear hhs2 hM2
        have hM2l := hid hsh2.1
        have hX6 : HX X w6 := hX.ext hE06
        have hM6' : MO (un X po2) base 33 31 w6 ao cap hs2 (clear M2 pl j 0) := by rw [clear_zero]; exact hM6
        go_loopw [54] (fun k wx => ∃ (s : Nat), k = .int .i64 s ∧ s ≤ n - (pl + 1) ∧ MO (un X po2) base 33 31 wx ao cap hs2 (clear M2 pl j s) ∧ OL (NatIn .i64) 1 (mz X ao hs) w1.heap.size 3 wx po2 pc2 (P ++ [j]) ∧ ExtX (mb ao hs) w1 wx ∧ wx.cell? ⟨bw, 0, none⟩ = some (.int .i64 (j : Int))) (fun k _ => n - (pl + 1) - (intOf k).toNat)
        case atStart => exact ⟨0, rfl, Nat.zero_le _, hM6', hP6, hE06, b6⟩
        case round =>
          obtain ⟨s, rfl, hs9, hM8, hP8, hE8, b8⟩ := hrel
          by_cases hls : s < n - (pl + 1)
          · obtain ⟨t, ht⟩ : ∃ t, pl + 1 + s = t := ⟨_, rfl⟩
            have htn : t < n := by omega
            have hth : t < hs2.length := by rw [hh2l.out]; exact htn
            have hph : pl < hs2.length := by rw [hh2l.out]; exact hpn2
            have htm : t < M2.length := by rw [hM2l.out]; exact htn
            have hpm : pl < M2.length := by rw [hM2l.out]; exact hpn2
            have htc : t < (clear M2 pl j s).length := by rw [clear_len]; exact htm
            have hpc : pl < (clear M2 pl j s).length := by rw [clear_len]; exact hpm
            obtain ⟨a1, n1, c1, hh1⟩ : ∃ a n c, hs2[t] = (a, n, c) := ⟨_, _, _, rfl⟩
            obtain ⟨a2, n2, c2, hh2⟩ : ∃ a n c, hs2[pl] = (a, n, c) := ⟨_, _, _, rfl⟩
            have hg1 : (clear M2 pl j s)[t] = M2[t] := by rw [clear_get htc htm, if_neg (by omega)]
            have hg2 : (clear M2 pl j s)[pl] = M2[pl] := by rw [clear_get hpc hpm, if_neg (by omega)]
            have hn1' : n1 = c := by
              have := hM8.rlen t hth htc
              rw [hh1, hg1, hsh2.2 _ (List.getElem_mem _)] at this; exact this
            have hn2' : n2 = c := by
              have := hM8.rlen pl hph hpc
              rw [hh2, hg2, hsh2.2 _ (List.getElem_mem _)] at this; exact this
            subst hn1'
            subst hn2'
            have hR1 := hM8.row t hth htc
            have hR2 := hM8.row pl hph hpc
            rw [hg1] at hR1
            rw [hg2] at hR2
            simp only [hh1] at hR1
            simp only [hh2] at hR2
            have hz1 := fun k (hk : ob a1 k = true) => hM8.mz_sub hth k (by rw [hh1]; exact hk)
            have hz2 := fun k (hk : ob a2 k = true) => hM8.mz_sub hph k (by rw [hh2]; exact hk)
            have hds : ∀ k, ob a1 k = true → ob a2 k = false := fun k hk => by
              have := hM8.dis t pl hth hph (by omega) k (by rw [hh1]; exact hk)
              rw [hh2] at this; exact this
            have hsp := fun k (hk : ob a1 k = true) => hM8.sep t hth k (by rw [hh1]; exact hk)
            have hBn := hbnd.out t htn
            rw [getD_row htm] at hBn
            have hcs : Hid ((clear M2 pl j s).set t (elimL M2[t] (M2.getD pl []) j) = clear M2 pl j (s + 1)) := hid (by subst ht; exact clear_set htm)
            have hpe : M2.getD pl [] = M2[pl] := getD_row hpm
            rw [← hpe] at hR2
            have hrl1 := hid (hsh2.2 M2[t] (List.getElem_mem _))
            have hrl2 := hid (show (M2.getD pl []).length = n2 by rw [hpe]; exact hsh2.2 _ (List.getElem_mem _))
            obtain ⟨row, hrow⟩ : ∃ row, M2[t] = row := ⟨_, rfl⟩
            obtain ⟨piv, hpiv⟩ : ∃ piv, M2.getD pl [] = piv := ⟨_, rfl⟩
            rw [hrow, hpiv] at hcs
            rw [hrow] at hR1 hrl1
            rw [hpiv] at hR2 hrl2
            rw [hrow, hpiv] at hBn
            have hX8 : HX (un X po2) wr := fun k hk => by
              by_cases hx : X k = true
              · exact hX.ext hE8 k hx
              · exact (hP8.block (by simpa [un, hx] using hk)).2
            have hZ8 := hM8.hz hX8
            have hEd : Ext wr wr.drew := (ExtX.refl wr).drew
            have hel := eliminate_any (mz (un X po2) ao hs2) base wr.drew a1 a2 c1 c2 n2 j row piv hZ8 (hR1.ext0 QC.elem hEd) (hR2.ext0 QC.elem hEd) hz1 hz2 hds hrl1.out hrl2.out (by omega) hlj hBn.1 hBn.2.1 hBn.2.2.1 hBn.2.2.2
            have y1 : wr.cell? (adr ao3 s) = some (.slice a1 n2 c1) := by
              have := (hM8.hdr t hth).1
              rw [hh1, ← ht] at this
              rw [ha3.out s hls]; exact this
            have y2 : wr.drew.cell? (adr ao pl) = some (.slice a2 n2 c2) := by
              have := (hM8.hdr pl hph).1
              rw [hh2] at this
              exact this
            have y3 : wr.drew.cell? ⟨bw, 0, none⟩ = some (.int .i64 (j : Int)) := b8
            have haob : Hid (ob a1 (adr ao pl).block = false) := hid (by
              cases hb : ob a1 (adr ao pl).block
              · rfl
              · have h1 := (hsp _ hb).2
                obtain ⟨b0, o0, rfl⟩ := hhO (by omega)
                simp [ob, adr] at h1)
            have habw : Hid (ob a1 bw = false) := hid (by
              cases hb : ob a1 bw
              · rfl
              · have h5 : mb ao hs2 bw = true := mb_iff.2 (.inr (obs_get hth (show ob hs2[t].1 bw = true by rw [hh1]; exact hb)))
                rw [hmb2.out, hmbw.out] at h5; simp at h5)
            have i1 : ∀ W, (Instr.indexAt 23 (.slice ao n cap) (.int .i64 (pl : Int))).run Tryz.prog W = .ok (.pointer (some (adr ao pl))) W := run_ix1 slRats ao n cap .i64 pl hhO (by omega) rfl
            have hh1' := hid hh1
            replace ht := hid ht
            clear hg1 hg2 hpe hrow hpiv hh1 hh2 hR1 hR2 hBn
            go_wp2_with (with_reducible refine up_ix1 slRats (by omega) (by assumption) ?_)
            go_region_held3 (fun w' => w'.cell? (adr ao pl) = some (.slice a2 n2 c2) ∧ w'.cell? ⟨bw, 0, none⟩ = some (.int .i64 (j : Int)))
              (first | exact ⟨t1.cellY y2 haob.out, t1.cellY y3 habw.out⟩ | go_keep)
              ((go_at_call 136; (with_reducible refine hel.mono ?_); rintro ee w7 ⟨rfl, t1, hO7⟩))
            have b9 := t1.cellY y3 habw.out
            have hEr : ExtX (ob hs2[t].1) wr.drew w7 := by rw [hh1'.out]; exact t1
            have hM9 := (hM8.ext0 hEd).upd hth (l := elimL row piv j) hEr (fun hi' => by
              rw [clear_get htc htm, if_neg (by have := ht.out; omega), elimL_len _ _ _ (by rw [hrl1.out, hrl2.out]), hrl2.out]
              exact (hsh2.2 _ (List.getElem_mem _)).symm) (by rw [hh1'.out]; exact hO7)
            rw [hcs.out] at hM9
            have hP9 := (hP8.ext0 (NatIn.elem _) hEd).frame (NatIn.pure _) t1 (fun k hk => by
              cases hb : ob a1 k
              · rfl
              · have := (hsp k hb).1; rw [un_right hk] at this; simp at this) hP8.1
            have hE9 := (hE8.trans (ExtX.of hEd)).trans (by rw [← hmb2.out]; exact ExtX.row hth hEr)
            clear y1 y2 y3 i1
            go_wp2_with fail
            go_roundw
            case rel => exact ⟨s + 1, by go_num, by omega, hM9, hP9, hE9, b9⟩
            case measure => simp [intOf]; omega
          · have hfin : Hid (clear M2 pl j s = clear M2 pl j n) := hid (clear_full (by rw [hM2l.out]; omega) (by rw [hM2l.out]; omega))
            rw [hfin.out] at hM8
            have hodd : Hid ((!(od == ((q : Int) != 0))) = (od != decide (q ≠ 0))) := hid (by cases od <;> by_cases h : q = 0 <;> simp [h])
            have hpl2 : Hid ((P ++ [j]).length = pl + 1) := hid (by simp [hpl.out])
            by_cases hfull : pl + 1 = n
            · have hne : (((pl + 1 : Nat) : Int) == (n : Int)) = true := beqT (by omega)
              have hne2 : (((pl : Int) + 1) == (n : Int)) = true := beqT (by omega)
              have hstop : Hid (eN m c = (clear M2 pl j n, P ++ [j], od != decide (q ≠ 0))) := hid (by
                rw [eN_stop m (j + 1) (by rw [hst2.out]; dsimp only; rw [hpl2.out, clear_len, hM2l.out]; exact hfull) c (by omega)]; exact hst2.out)
              clear hfull
              go_wp2_with fail
              go_ret2
              rw [hstop.out]
              exact ⟨hE8, po2, pc2, hs2, by rw [hpl2.out, ← hodd.out]; rfl, hmb2.out, hM8, hP8⟩
            · have hne : (((pl + 1 : Nat) : Int) == (n : Int)) = false := beqF (by omega)
              have hne2 : (((pl : Int) + 1) == (n : Int)) = false := beqF (by omega)
              have hpn3 : Hid (j + 1 < c → pl + 1 < n) := hid fun _ => by omega
              clear hfull
              go_wp2_with fail
              go_roundw
              case rel => exact ⟨j + 1, po2, pc2, pl + 1, hs2, _, _, _, by go_num, rfl, by rw [hodd.out], by omega, hpl2, hst2, hpn3, hM8, hP8, hmb2, hE8⟩
              case measure => simp [intOf]; omega
    · have hjc : j = c := by omega
      subst hjc
      go_wp2_with fail
      go_ret2
      rw [hst.out]
      exact ⟨hE, po, pc, hs', by rw [hpl.out]; rfl, hmb.out, hM, hP⟩
end Go.Proofs.YtjbhcniiioepgaaGreat


namespace Go.Lin
/-- Bounds that the second phase wants. -/
theorem elim_bounds2 {n c B t i col : Nat} {m : Mat} (hs : Shp n c m) (h : HB B m) (ht : t < n) (hi : i < n) (hit : i ≠ t) (hB : 7 * B ≤ 68719476736) :
    Go.Rep.BR 68719476736 ((divL m t col).getD i []) ∧ Go.Rep.BR 68719476736 ((divL m t col).getD t []) ∧ Go.Lim.hq (((divL m t col).getD i []).getD col 0 / ((divL m t col).getD t []).getD col 0) ≤ 68719476736 ∧ ∀ x ∈ (divL m t col).getD t [], Go.Lim.hq (((divL m t col).getD i []).getD col 0 / ((divL m t col).getD t []).getD col 0 * x) ≤ 68719476736 := by
  have h2 := h.divL hs ht col
  have hrow : ∀ k, Go.Rep.BR (2 * B) ((divL m t col).getD k []) := fun k q hq => by
    obtain ⟨j, hj, rfl⟩ := List.getElem_of_mem hq
    have e : ((divL m t col).getD k []).getD j 0 = ((divL m t col).getD k [])[j] := by rw [List.getD_eq_getElem?_getD, List.getElem?_eq_getElem hj]; rfl
    rw [← e]; exact h2 k j
  have h1 : Go.Lim.hq (((divL m t col).getD i []).getD col 0) ≤ B := by
    have := ent_divL hs ht col i col
    rw [if_neg hit] at this
    unfold ent at this
    rw [this]; exact h i col
  have h3 : Go.Lim.hq (((divL m t col).getD t []).getD col 0) ≤ 2 * B := h2 t col
  have h4 := Go.Lim.hq_div (((divL m t col).getD i []).getD col 0) (((divL m t col).getD t []).getD col 0)
  refine ⟨fun q hq => Nat.le_trans (hrow i q hq) (by omega), fun q hq => Nat.le_trans (hrow t q hq) (by omega), by omega, fun x hx => ?_⟩
  have h5 := hrow t x hx
  have h6 := Go.Lim.hq_mul (((divL m t col).getD i []).getD col 0 / ((divL m t col).getD t []).getD col 0) x
  omega
end Go.Lin
namespace Go.Rep
theorem run_slice_to {P : Program} {t e sz by_ : Nat} {z : Value} {ao : Option Addr} (T : SliceT P t e sz by_ z) (len cap : Nat) (k1 : IntKind) (i : Nat) (h1 : i ≤ cap) (w : World) :
    (Instr.sliceAt t (.slice ao len cap) none (some (.int k1 (i : Int))) none).run P w = .ok (.slice ao i cap) w := by
  obtain ⟨ti, hi, hz, hsz, hby⟩ := info_parts T.info
  have h1' : (i : Int) ≤ cap := by omega
  cases ao <;> simp [Instr.sliceAt, Instr.slice, run_underlying T.und, Instr.sliceBounds, run_sliceBound, h1', sizeOf, typeInfo, hi, hsz, Addr.add_zero']
end Go.Rep
namespace Go.Proofs.YtjbhcniiioepgaaGreat
open Go.RowKit Go.Rep Go.Lim Go.Lin

/-- What reduce leaves: the pivots, and the rows turned. -/
def RdOut (X : Nat → Bool) (base : Nat) (w : World) (ao : Option Addr) (cap : Nat) (hs : List Hdr) (s : Mat × List Nat) (e : Ending) (w' : World) : Prop :=
  ExtX (mb ao hs) w w' ∧ ∃ po pc hs', e = .returned (.slice po s.2.length pc) ∧ mb ao hs' = mb ao hs ∧ MO (un X po) base 33 31 w' ao cap hs' s.1 ∧ OL (NatIn .i64) 1 (mz X ao hs) w.heap.size 3 w' po pc s.2

set_option maxRecDepth 100000 in
set_option maxHeartbeats 1600000 in
theorem mreduce_any (X : Nat → Bool) (base : Nat) (w : World) (ao : Option Addr) (cap n c : Nat) (hs : List Hdr) (m : List (List Rat)) (hX : HX X w) (hM : MO X base 33 31 w ao cap hs m) (hsh : Shp n c m) (hc : colsL m = c) (hn : n ≤ 900) (hcc : c ≤ 900) (hT : Tame m c) :
    Calls Tryz.prog 85 #[.slice ao n cap] w (RdOut X base w ao cap hs (redP m c)) := by
  have hech := echelon_any X base w ao cap n c hs m hX hM hsh hc hn hcc hT.e
  obtain ⟨B, hB7, _, hBt⟩ := hT
  have hok := eN_ok hsh c
  have hcap : n ≤ cap := by have := hM.capLen; rw [hsh.1] at this; exact this
  have hhO : Hd ao n := by have := hM.outer.hd; rw [hM.len, hsh.1] at this; exact this
  have hred : redP m c = (dN (eN m c).1 (eN m c).2.1 (eN m c).2.1.length, (eN m c).2.1) := rfl
  obtain ⟨⟨E, p, od⟩, hS⟩ : ∃ S, eN m c = S := ⟨_, rfl⟩
  rw [hS] at hech hok hBt hred
  rw [hred]
  dsimp only at hBt ⊢
  obtain ⟨pl, hpl⟩ : ∃ pl, p.length = pl := ⟨_, rfl⟩
  have hEs : Shp n c E := hok.shp
  have hEe : Ech n c (ent E) p := hok.ech
  have hpn : pl ≤ n := by have := hEe.le; omega
  have hDok := hid (dN_ok hEs hEe)
  have hDB : Hid (∀ t, t ≤ p.length → HB B (dN E p t)) := hid hBt
  have hDb := hid hB7
  have hplt : Hid (∀ i (hi : i < p.length), p[i] < c) := hid hEe.lt
  have hpl' := hid hpl
  have hn0 : Hid (HX X w) := hid hX
  clear hsh hBt hB7 hred hS hok hEe hc
  go_enter Tryz.func85, Tryz.ntmps85
  go_wp2_with fail
  refine hech.mono ?_
  rintro e w1 ⟨hE1, po, pc, hs', rfl, hmb, hM1, hP1⟩
  dsimp only at hM1 hP1 ⊢
  rw [hpl]
  have hmb' := hid hmb
  have hlen := hid (hM1.len.trans hEs.1)
  have hdP : Hd po pl := by have := hP1.hd; rw [hpl] at this; exact this
  clear hech hmb hpl hM
  go_wp2_with fail
  go_loopw [19] (fun k wr => ∃ (i : Nat), k = .int .i64 i ∧ i ≤ pl ∧ MO (un X po) base 33 31 wr ao cap hs' (dN E p i) ∧ OL (NatIn .i64) 1 (mz X ao hs) w.heap.size 3 wr po pc p ∧ ExtX (mb ao hs) w wr) (fun k _ => pl - (intOf k).toNat)
  case atStart => exact ⟨0, rfl, Nat.zero_le _, hM1, hP1, hE1⟩
  case round =>
    obtain ⟨i, rfl, hi, hM, hP, hE⟩ := hrel
    by_cases hlt : i < pl
    · have hip : i < p.length := by rw [hpl'.out]; exact hlt
      have hin : i < n := by omega
      have hcl := hplt.out i hip
      have hPs := (hP.sl (NatIn.elem _)).nat i hip
      have hD := hDok.out i (by rw [hpl'.out]; omega)
      have hDBi := hDB.out i (by rw [hpl'.out]; omega)
      have hDbi := hDb.out
      have hgd : Hid (p.getD i 0 = p[i]) := hid (by simp [List.getD_eq_getElem?_getD, hip])
      have hdn : Hid (dN E p (i + 1) = dStep (dN E p i) i p[i]) := hid (by rw [← hgd.out]; rfl)
      obtain ⟨D, hDe⟩ : ∃ D, dN E p i = D := ⟨_, rfl⟩
      obtain ⟨col, hcole⟩ : ∃ col, p[i] = col := ⟨_, rfl⟩
      rw [hDe] at hM hD hDBi hdn
      rw [hcole] at hPs hcl hdn
      have hDs : Shp n c D := hD.shp
      have hDl := hid hDs.1
      have hih : i < hs'.length := by rw [hlen.out]; exact hin
      have hiD : i < D.length := by rw [hDl.out]; exact hin
      obtain ⟨a, na, cr, hhd⟩ : ∃ a na cr, hs'[i] = (a, na, cr) := ⟨_, _, _, rfl⟩
      obtain ⟨row, hrow⟩ : ∃ row, D[i] = row := ⟨_, rfl⟩
      have hrl : Hid (row.length = c) := hid (by rw [← hrow]; exact hDs.2 _ (List.getElem_mem _))
      have hna : na = c := by
        have := hM.rlen i hih hiD
        rw [hhd, hrow, hrl.out] at this; exact this
      subst hna
      have hR := hM.row i hih hiD
      rw [hrow] at hR
      simp only [hhd] at hR
      have hz1 := fun k (hk : ob a k = true) => hM.mz_sub hih k (by rw [hhd]; exact hk)
      have hsp := fun k (hk : ob a k = true) => hM.sep i hih k (by rw [hhd]; exact hk)
      have hda : Hd a na := by have := hR.hd; rw [hrl.out] at this; exact this
      have hun : Hid (un (cut (mz (un X po) ao hs') a) a = mz (un X po) ao hs') := hid (un_cut hz1)
      have haob : Hid (ob a (adr ao i).block = false) := hid (by
        cases hb : ob a (adr ao i).block
        · rfl
        · have h1 := (hsp _ hb).2
          obtain ⟨b0, o0, rfl⟩ := hhO (by omega)
          simp [ob, adr] at h1)
      have y1 : wr.cell? (adr ao i) = some (.slice a na cr) := by
        have := (hM.hdr i hih).1
        rw [hhd] at this; exact this
      have hcr : col < row.length := by rw [hrl.out]; exact hcl
      have hby : Hid (row[col] = ent D i col) := hid (by
        unfold ent; rw [getD_row hiD]; simp [hrow, List.getD_eq_getElem?_getD, hcr])
      obtain ⟨by_, hbye⟩ : ∃ b, ent D i col = b := ⟨_, rfl⟩
      have hbq : Hid (hq by_ ≤ 68719476736) := hid (by rw [← hbye]; exact Nat.le_trans (hDBi i col) (by omega))
      have hBrow : Hid (BR 68719476736 row) := hid fun q hq => by
        obtain ⟨x, hx, rfl⟩ := List.getElem_of_mem hq
        have := hDBi.bm D[i] (List.getElem_mem _) row[x] (by rw [hrow]; exact List.getElem_mem _)
        omega
      have hdiv : Hid (D.set i (row.map (· / by_)) = divL D i col) := hid (by
        unfold divL; rw [getD_row hiD, hrow, hbye])
      rw [hbye] at hby
      have bx := Bx.new wr #[.bool false, .slice none 0 0, .slice none 0 0] 31
      have hhd' := hid hhd
      have hrow' := hid hrow
      clear hhd hrow hDe hcole hbye
      go_wp2_with (first | (with_reducible refine up_ix1 slInt (by omega) (by assumption) ?_) | (with_reducible refine up_ix1 slRats (by omega) (by assumption) ?_) | (with_reducible refine up_ixn slRat (by omega) (by assumption) ?_) | ((with_reducible show wpList _ _ _ (⟨_, .load 31 _, _, _, _, _⟩ :: _) _ _); refine st_loadOL stRat col hR hcr rfl (by simp) QC.agg ?_; intro u5 hu5; rw [hby.out, hun.out] at hu5; obtain ⟨s5, a5, n5, c5, d5, k5, e5, rfl⟩ := hu5.shape) | ((with_reducible show wpList _ _ _ (⟨_, .store _ _ _, _, _, _, _⟩ :: _) _ _); refine st_storeBox stRat rfl rfl bx rfl rfl (one3 _ _ _ _ _ _ _) ?_; intro w5 r1 r2; have y2 := (ExtX.box ((ExtX.refl wr).alloc _) r2 (Nat.le_refl _) : Ext wr w5).cell y1))
      have hE5 : Ext wr w5 := ExtX.box ((ExtX.refl wr).alloc _) r2 (Nat.le_refl _)
      have hM5 := hM.ext0 hE5
      have hP5 := hP.ext0 (NatIn.elem _) hE5
      have hq5 : QV (mk (mz (un X po) ao hs') w5) (.agg #[.bool s5, .slice a5 n5 c5, .slice d5 k5 e5]) by_ := (mkx QC.mono hu5 hE5).qv hbq.out
      have hE15 := hE.trans (ExtX.of (Y := mb ao hs) hE5)
      obtain ⟨bb, hbb⟩ : ∃ bb, wr.heap.size = bb := ⟨_, rfl⟩
      rw [hbb] at r1 ⊢
      have hmbb : Hid (mb ao hs bb = false) := hid (by
        rw [← hmb'.out]
        cases hb : mb ao hs' bb
        · rfl
        · have := (hM.mb_block hb).2; omega)
      obtain ⟨R, hRe⟩ : ∃ R, row.map (· / by_) = R := ⟨_, rfl⟩
      have hRl : Hid (R.length = na) := hid (by rw [← hRe, List.length_map]; exact hrl.out)
      have hRr : Hid (R.length = row.length) := hid (by rw [hRl.out, hrl.out])
      have hRj : Hid (∀ j (h1 : j < row.length) (h2 : j < R.length), R[j] = row[j] / by_) := hid fun j h1 h2 => by subst hRe; simp
      rw [hRe] at hdiv
      have hM5' : MO (un X po) base 33 31 w5 ao cap hs' (D.set i (mix R row 0)) := by
        rw [mix_zero, ← hrow'.out, List.set_getElem_self]; exact hM5
      clear hR hRe bx y1 y2 hM5 hu5 hM hP
      go_loopw [36] (fun k wx => ∃ (j : Nat), k = .int .i64 j ∧ j ≤ na ∧ MO (un X po) base 33 31 wx ao cap hs' (D.set i (mix R row j)) ∧ OL (NatIn .i64) 1 (mz X ao hs) w.heap.size 3 wx po pc p ∧ Bx wx bb #[.bool s5, .slice a5 n5 c5, .slice d5 k5 e5] 31 ∧ QV (mk (mz (un X po) ao hs') wx) (.agg #[.bool s5, .slice a5 n5 c5, .slice d5 k5 e5]) by_ ∧ ExtX (mb ao hs) w wx) (fun k _ => na - (intOf k).toNat)
      case atStart => exact ⟨0, rfl, Nat.zero_le _, hM5', hP5, r1, hq5, hE15⟩
      case round =>
        obtain ⟨j, rfl, hj, hM, hP, hB7, hq7, hE⟩ := hrel
        by_cases hlj : j < na
        · have hjr : j < row.length := by rw [hrl.out]; exact hlj
          have hjR : j < R.length := by rw [hRl.out]; exact hlj
          have hml : Hid ((mix R row j).length = na) := hid (by rw [mix_len hRr.out, hRl.out])
          have hjm : j < (mix R row j).length := by rw [hml.out]; exact hlj
          have hmg : Hid ((mix R row j)[j] = row[j]) := hid (by rw [mix_getElem hRr.out, if_neg (by omega)])
          have hjs : Hid ((mix R row j).set j R[j] = mix R row (j + 1)) := hid (mix_set hRr.out hjR)
          have hRjj := hid (hRj.out j hjr hjR)
          have hbr := hid (hBrow.out row[j] (List.getElem_mem _))
          have hset9 : Hid (i < (D.set i (mix R row j)).length) := hid (by rw [List.length_set]; exact hiD)
          have hR := hM.row i hih hset9.out
          rw [List.getElem_set_self] at hR
          simp only [hhd'.out] at hR
          obtain ⟨x, hx⟩ : ∃ x, row[j] = x := ⟨_, rfl⟩
          obtain ⟨v, hv⟩ : ∃ v, R[j] = v := ⟨_, rfl⟩
          rw [hx] at hmg hbr hRjj
          rw [hv] at hjs hRjj
          have hXr : HX X wr := hn0.out.ext hE
          have hXu : HX (un X po) wr := fun k hk => by
            by_cases hx : X k = true
            · exact hXr k hx
            · exact (hP.block (by simpa [un, hx] using hk)).2
          have hXz := hM.hz hXu
          obtain ⟨g, o, hg⟩ : ∃ g o, adr a (j * 3) = ⟨g, o, none⟩ := ⟨_, _, rfl⟩
          have i1 : ∀ W, (Instr.indexAt 23 (.slice ao n cap) (.int .i64 (i : Int))).run Tryz.prog W = .ok (.pointer (some (adr ao i))) W := run_ix1 slRats ao n cap .i64 i hhO (by omega) rfl
          have bx := Bx.new wr #[.bool false, .slice none 0 0, .slice none 0 0] 31
          have y1 : wr.cell? (adr ao i) = some (.slice a na cr) := by
            have := (hM.hdr i hih).1
            rw [hhd'.out] at this; exact this
          have hsp2 := hid hsp
          replace hg := hid hg
          clear hx hv hsp
          go_wp2_with (first | (with_reducible refine up_ixn slRat (by omega) (by assumption) ?_) | ((with_reducible show wpList _ _ _ (⟨_, .load 31 _, _, _, _, _⟩ :: _) _ _); refine st_loadOL stRat j hR hjm rfl (by simp) QC.agg ?_; intro u6 hu6; rw [hmg.out, hun.out] at hu6; obtain ⟨s6, a6, n6, c6, d6, k6, e6, rfl⟩ := hu6.shape) | ((with_reducible show wpList _ _ _ (⟨_, .store _ _ _, _, _, _, _⟩ :: _) _ _); refine st_storeBox stRat rfl rfl bx rfl rfl (one3 _ _ _ _ _ _ _) ?_; intro w6 r3 r4))
          have i2 : ∀ W, (Instr.indexAt 33 (.slice a na cr) (.int .i64 (j : Int))).run Tryz.prog W = .ok (.pointer (some ⟨g, o, none⟩)) W := by rw [← hg.out]; exact run_indexAt_adr slRat a na cr .i64 j hda (by omega)
          have hE6 : Ext wr w6 := ExtX.box ((ExtX.refl wr).alloc _) r4 (Nat.le_refl _)
          have hEd : Ext w6 w6.drew := (ExtX.refl w6).drew
          have hE6d := hE6.trans hEd
          have hM6 := hM.ext0 hE6d
          have hP6 := hP.ext0 (NatIn.elem _) hE6d
          have hR6 := hR.ext0 QC.elem hE6d
          have hB6 := hB7.ext0 hE6d
          have hx6 : QV (mk (mz (un X po) ao hs') w6.drew) (.agg #[.bool s6, .slice a6 n6 c6, .slice d6 k6 e6]) x := (mkx QC.mono hu6 hE6d).qv hbr.out
          have hb6 : QV (mk (mz (un X po) ao hs') w6.drew) (.agg #[.bool s5, .slice a5 n5 c5, .slice d5 k5 e5]) by_ := mkx QV.mono hq7 hE6d
          have hXd := hXz.ext hE6d
          have r3d := r3.ext0 hEd
          obtain ⟨bw, hbw⟩ : ∃ bw, wr.heap.size = bw := ⟨_, rfl⟩
          rw [hbw] at r3d
          have hab : Hid (ob a bw = false) := hid (by rw [← hbw]; exact hR.ob_ge (Nat.le_refl _))
          have habb : Hid (ob a bb = false) := hid (by
            cases hb : ob a bb
            · rfl
            · have h5 : mb ao hs' bb = true := mb_iff.2 (.inr (obs_get hih (show ob hs'[i].1 bb = true by rw [hhd'.out]; exact hb)))
              rw [hmb'.out, hmbb.out] at h5; simp at h5)
          have hS : Hid (∀ Y W', ExtX Y w6.drew W' → Y (adr ao i).block = false → Y bw = false → Y bb = false → W'.cell? (adr ao i) = some (.slice a na cr) ∧ W'.cell? ⟨bw, 0, none⟩ = some (.bool s6) ∧ W'.cell? ⟨bw, 1, none⟩ = some (.slice a6 n6 c6) ∧ W'.cell? ⟨bw, 2, none⟩ = some (.slice d6 k6 e6) ∧ W'.cell? ⟨bb, 0, none⟩ = some (.bool s5) ∧ W'.cell? ⟨bb, 1, none⟩ = some (.slice a5 n5 c5) ∧ W'.cell? ⟨bb, 2, none⟩ = some (.slice d5 k5 e5)) := hid fun Y W' h hy1 hy2 hy3 => by
            have z2 := r3d.ext h hy2
            have z3 := hB6.ext h hy3
            exact ⟨h.cellY (hE6d.cell y1) hy1, z2.cell 0 rfl, z2.cell 1 rfl, z2.cell 2 rfl, z3.cell 0 rfl, z3.cell 1 rfl, z3.cell 2 rfl⟩
          obtain ⟨k00, k10, k11, k12, k20, k21, k22⟩ := hS.out noY w6.drew (ExtX.refl _) rfl rfl rfl
          have qd := qdiv (mz (un X po) ao hs') w6.drew _ _ _ _ hXd hx6 hb6
          rw [← hRjj.out] at qd
          have qd2 : Calls Tryz.prog 135 #[.agg #[.bool s6, .slice a6 n6 c6, .slice d6 k6 e6], .agg #[.bool s5, .slice a5 n5 c5, .slice d5 k5 e5]] w6.drew (fun e w' => Ext w6.drew w' ∧ ∃ u ec, e = .returned (.tuple #[u, .int .i64 ec]) ∧ QC (mk (mz (un X po) ao hs') w') u v) := qd.mono fun e w' ⟨q1, u, q2, q3⟩ => ⟨q1, u, _, q2, q3⟩
          clear qd r3 bx y1
          rw [hbw]
          go_wp2_with fail
          go_region_held3 (fun w' => w'.cell? (adr ao i) = some (.slice a na cr) ∧ w'.cell? ⟨bw, 0, none⟩ = some (.bool s6) ∧ w'.cell? ⟨bw, 1, none⟩ = some (.slice a6 n6 c6) ∧ w'.cell? ⟨bw, 2, none⟩ = some (.slice d6 k6 e6) ∧ w'.cell? ⟨bb, 0, none⟩ = some (.bool s5) ∧ w'.cell? ⟨bb, 1, none⟩ = some (.slice a5 n5 c5) ∧ w'.cell? ⟨bb, 2, none⟩ = some (.slice d5 k5 e5))
            (first | exact hS.out noY _ t1 rfl rfl rfl | exact hS.out (ob a) _ ((ExtX.of t1).trans hset.2) haob.out hab.out habb.out | go_keep)
            ((go_at_call 135; (with_reducible refine qd2.mono ?_); rintro ee w7 ⟨t1, u7, ec7, rfl, hu7⟩; obtain ⟨s7, a7, n7, c7, d7, k7, e7, rfl⟩ := hu7.shape; have hO7 := hR6.ext0 QC.elem t1; obtain ⟨_, v0, v1, v2, _, ⟨g0, f0⟩, ⟨g1, f1⟩, ⟨g2, f2⟩, _⟩ := hO7.cell3 j hjm hg.out; have hset := hO7.set3 tyRat QC.elem j hjm hg.out (v0 := .bool s7) (v1 := .slice a7 n7 c7) (v2 := .slice d7 k7 e7) (x := v) (by rw [hun.out]; exact hu7)))
          obtain ⟨q1, q2⟩ := hset
          rw [hjs.out] at q1
          obtain ⟨w8, hw8⟩ : ∃ w8, ((w7.setCell ⟨g, o, none⟩ (.bool s7)).setCell ⟨g, o + 1, none⟩ (.slice a7 n7 c7)).setCell ⟨g, o + 2, none⟩ (.slice d7 k7 e7) = w8 := ⟨_, rfl⟩
          rw [hw8] at q1 q2 ⊢
          have q2' : ExtX (ob hs'[i].1) w7 w8 := by rw [hhd'.out]; exact q2
          have hM7 := (hM6.ext0 t1).upd hih (l := mix R row (j + 1)) q2' (fun hi' => by rw [List.getElem_set_self, mix_len hRr.out, mix_len hRr.out]) (by rw [hhd'.out]; exact q1)
          rw [List.set_set] at hM7
          have hP8 := (hP6.ext0 (NatIn.elem _) t1).frame (NatIn.pure _) q2 (fun k hk => by
            cases hb : ob a k
            · rfl
            · have := (hsp2.out k hb).1; rw [un_right hk] at this; simp at this) hP.1
          have hB8 := (hB6.ext0 t1).ext q2 habb.out
          have hq8 := QV.mono _ _ _ _ (mk_mono q2 hz1) (mkx QV.mono hb6 t1)
          have hE8 := (hE.trans (ExtX.of (hE6d.trans t1))).trans (show ExtX (mb ao hs) w7 w8 by rw [← hmb'.out]; exact ExtX.row hih q2')
          clear k00 k10 k11 k12 k20 k21 k22 g0 g1 g2 f0 f1 f2 i1 i2 hw8
          go_wp2_with fail
          go_roundw
          case rel => exact ⟨j + 1, by go_num, by omega, hM7, hP8, hB8, hq8, hE8⟩
          case measure => simp [intOf]; omega
        · have hjn : j = na := by omega
          subst hjn
          rw [mix_full (by rw [hRl.out]; exact Nat.le_refl _) (by rw [hrl.out]; exact Nat.le_refl _), hdiv.out] at hM
          obtain ⟨D2, hD2⟩ : ∃ D2, divL D i col = D2 := ⟨_, rfl⟩
          have hsh2 : Shp n j D2 := by rw [← hD2]; exact hDs.divL hin col
          have hbnd : Hid (∀ t, t < i → BR 68719476736 (D2.getD t []) ∧ BR 68719476736 (D2.getD i []) ∧ hq ((D2.getD t []).getD col 0 / (D2.getD i []).getD col 0) ≤ 68719476736 ∧ ∀ x ∈ D2.getD i [], hq ((D2.getD t []).getD col 0 / (D2.getD i []).getD col 0 * x) ≤ 68719476736) := hid fun t ht => by
            rw [← hD2]; exact elim_bounds2 hDs hDBi hin (by omega) (by omega) hDbi
          have hdn2 : Hid (above D2 i col i = dN E p (i + 1)) := hid (by rw [hdn.out]; unfold dStep; rw [hD2])
          rw [hD2] at hM
          have hD2l := hid hsh2.1
          have hM' : MO (un X po) base 33 31 wr ao cap hs' (above D2 i col 0) := by rw [above_zero]; exact hM
          have hicap : i ≤ cap := by omega
          have f1 : ∀ W, (Instr.sliceAt 23 (.slice ao n cap) none (some (.int .i64 (i : Int))) none).run Tryz.prog W = .ok (.slice ao i cap) W := run_slice_to slRats n cap .i64 i hicap
          have hhOi : Hd ao i := fun h0 => hhO (by omega)
          clear hM hD2 hB7 hq7
          go_wp2_with fail
          go_loopw [58] (fun k wx => ∃ (s : Nat), k = .int .i64 s ∧ s ≤ i ∧ MO (un X po) base 33 31 wx ao cap hs' (above D2 i col s) ∧ OL (NatIn .i64) 1 (mz X ao hs) w.heap.size 3 wx po pc p ∧ ExtX (mb ao hs) w wx) (fun k _ => i - (intOf k).toNat)
          case atStart => exact ⟨0, rfl, Nat.zero_le _, hM', hP, hE⟩
          case round =>
            obtain ⟨s, rfl, hs9, hM8, hP8, hE8⟩ := hrel
            by_cases hls : s < i
            · have htn : s < n := by omega
              have hth : s < hs'.length := by rw [hlen.out]; exact htn
              have htm : s < D2.length := by rw [hD2l.out]; exact htn
              have hpm : i < D2.length := by rw [hD2l.out]; exact hin
              have htc : s < (above D2 i col s).length := by rw [above_len]; exact htm
              have hpc : i < (above D2 i col s).length := by rw [above_len]; exact hpm
              obtain ⟨a1, n1, c1, hh1⟩ : ∃ a n c, hs'[s] = (a, n, c) := ⟨_, _, _, rfl⟩
              have hg1 : (above D2 i col s)[s] = D2[s] := by rw [above_get htc htm, if_neg (by omega)]
              have hg2 : (above D2 i col s)[i] = D2[i] := by rw [above_get hpc hpm, if_neg (by omega)]
              have hn1' : n1 = j := by
                have := hM8.rlen s hth htc
                rw [hh1, hg1, hsh2.2 _ (List.getElem_mem _)] at this; exact this
              subst hn1'
              have hR1 := hM8.row s hth htc
              have hR2 := hM8.row i hih hpc
              rw [hg1] at hR1
              rw [hg2] at hR2
              simp only [hh1] at hR1
              simp only [hhd'.out] at hR2
              have hzz1 := fun k (hk : ob a1 k = true) => hM8.mz_sub hth k (by rw [hh1]; exact hk)
              have hzz2 := fun k (hk : ob a k = true) => hM8.mz_sub hih k (by rw [hhd'.out]; exact hk)
              have hds : ∀ k, ob a1 k = true → ob a k = false := fun k hk => by
                have := hM8.dis s i hth hih (by omega) k (by rw [hh1]; exact hk)
                rw [hhd'.out] at this; exact this
              have hsp1 := fun k (hk : ob a1 k = true) => hM8.sep s hth k (by rw [hh1]; exact hk)
              have hBn := hbnd.out s hls
              rw [getD_row htm] at hBn
              have hcs : Hid ((above D2 i col s).set s (elimL D2[s] (D2.getD i []) col) = above D2 i col (s + 1)) := hid (above_set htm hls)
              have hpe : D2.getD i [] = D2[i] := getD_row hpm
              rw [← hpe] at hR2
              have hrl1 := hid (hsh2.2 D2[s] (List.getElem_mem _))
              have hrl2 := hid (show (D2.getD i []).length = n1 by rw [hpe]; exact hsh2.2 _ (List.getElem_mem _))
              obtain ⟨rw1, hrow1⟩ : ∃ rw1, D2[s] = rw1 := ⟨_, rfl⟩
              obtain ⟨piv, hpiv⟩ : ∃ piv, D2.getD i [] = piv := ⟨_, rfl⟩
              rw [hrow1, hpiv] at hcs
              rw [hrow1] at hR1 hrl1
              rw [hpiv] at hR2 hrl2
              rw [hrow1, hpiv] at hBn
              have hX8 : HX (un X po) wr := fun k hk => by
                by_cases hx : X k = true
                · exact hn0.out.ext hE8 k hx
                · exact (hP8.block (by simpa [un, hx] using hk)).2
              have hZ8 := hM8.hz hX8
              have hel := eliminate_any (mz (un X po) ao hs') base wr a1 a c1 cr n1 col rw1 piv hZ8 hR1 hR2 hzz1 hzz2 hds hrl1.out hrl2.out (by omega) hcl hBn.1 hBn.2.1 hBn.2.2.1 hBn.2.2.2
              have y1 : wr.cell? (adr ao s) = some (.slice a1 n1 c1) := by
                have := (hM8.hdr s hth).1
                rw [hh1] at this; exact this
              have y2 : wr.cell? (adr ao i) = some (.slice a n1 cr) := by
                have := (hM8.hdr i hih).1
                rw [hhd'.out] at this; exact this
              have hh1' := hid hh1
              clear hg1 hg2 hpe hrow1 hpiv hh1 hR1 hR2 hBn f1
              go_wp2_with (with_reducible refine up_ix1 slRats (by omega) (by assumption) ?_)
              refine hel.mono ?_
              rintro ee w7 ⟨rfl, t1, hO7⟩
              have hEr : ExtX (ob hs'[s].1) wr w7 := by rw [hh1'.out]; exact t1
              have hM9 := hM8.upd hth (l := elimL rw1 piv col) hEr (fun hi' => by
                rw [above_get htc htm, if_neg (by omega), elimL_len _ _ _ (by rw [hrl1.out, hrl2.out]), hrl2.out]
                exact (hsh2.2 _ (List.getElem_mem _)).symm) (by rw [hh1'.out]; exact hO7)
              rw [hcs.out] at hM9
              have hP9 := hP8.frame (NatIn.pure _) t1 (fun k hk => by
                cases hb : ob a1 k
                · rfl
                · have := (hsp1 k hb).1; rw [un_right hk] at this; simp at this) hP8.1
              have hE9 := hE8.trans (show ExtX (mb ao hs) wr w7 by rw [← hmb'.out]; exact ExtX.row hth hEr)
              clear y1 y2
              go_wp2_with fail
              go_roundw
              case rel => exact ⟨s + 1, by go_num, by omega, hM9, hP9, hE9⟩
              case measure => simp [intOf]; omega
            · have hsi : s = i := by omega
              subst hsi
              rw [hdn2.out] at hM8
              go_wp2_with fail
              go_roundw
              case rel => exact ⟨s + 1, by go_num, by omega, hM8, hP8, hE8⟩
              case measure => simp [intOf]; omega
    · have hil : i = pl := by omega
      subst hil
      rw [← hpl'.out] at hM
      go_wp2_with fail
      go_ret
      exact ⟨hE, po, pc, hs', by rw [hpl'.out]; rfl, hmb'.out, hM, hP⟩
end Go.Proofs.YtjbhcniiioepgaaGreat


namespace Go.Rep
open Go.RowKit Go.Lim
section
variable {P : Program} {ops : Array Oper} {Q : Exit → Act → World → Prop} {rest : List Oper} {a : Act} {w : World}
variable {α : Type} {R : Mem → Value → α → Prop} {sz : Nat} {X : Nat → Bool} {base : Nat} {e : TypeId} {ao : Option Addr} {cap : Nat} {l : List α}
variable {d : Option Tmp} {ty : TypeId} {ps : String} {af : Array Edge}
theorem OL.run_copy {t by_ : Nat} {z : Value} (T : SliceT P t e sz by_ z) (hR : Elem R sz) (h : OL R sz X base e w ao cap l) (sa : Option Addr) (ca : Nat) (us' : List Value) (xs : List α) (hat : At w sa us') (hlen : us'.length = xs.length)
    (hxs : ∀ i (hi : i < us'.length) (hi' : i < xs.length), R (mk (un X ao) w) us'[i] xs[i]) (hk : xs.length ≤ l.length) (h0 : 0 < xs.length) (ty : TypeId) :
    ∃ w', (Builtin.copy_ #[t, t] ty #[.slice ao l.length cap, .slice sa xs.length ca]).run P w = .ok (goInt xs.length) w' ∧ OL R sz X base e w' ao cap (xs ++ l.drop xs.length) ∧ ExtX (ob ao) w w' := by
  obtain ⟨i, hi, hz, hsz, hby⟩ := info_parts T.info
  have hus' : ∀ u ∈ us', u.cells.size = sz := by
    intro v hv
    obtain ⟨i, hi, rfl⟩ := List.getElem_of_mem hv
    exact hR.size _ _ _ (hxs i hi (by omega))
  have hone' : ∀ u ∈ us', ∀ c ∈ cellsL u, c.oneCell' = true := by
    intro v hv
    obtain ⟨i, hi, rfl⟩ := List.getElem_of_mem hv
    exact hR.one _ _ _ (hxs i hi (by omega))
  have hone2 : ∀ v ∈ us'.flatMap cellsL, v.oneCell' = true := by
    intro c hc
    obtain ⟨v, hv, hcv⟩ := List.mem_flatMap.1 hc
    exact hone' v hv c hcv
  obtain ⟨sb, so, rfl⟩ := hat.1 (by omega)
  have hnews : ∀ j u, (us'.flatMap cellsL)[j]? = some u → w.cell? ((⟨sb, so, none⟩ : Addr).add j) = some u := by
    intro j u hj
    rw [← adr_addr rfl]; exact hat.2 j u hj
  have hnl : (us'.flatMap cellsL).length = xs.length * sz := by rw [flat_length us' hus', hlen]
  have hform := h.form
  obtain ⟨hx, us, h1, h2, h22, h3, h5⟩ := h
  rcases hform with ⟨rfl, rfl, rfl⟩ | ⟨g, cur, rfl, h6, h7, h8, h9, h10⟩
  · simp at hk; subst hk; simp at h0
  have hfit : 0 + (us'.flatMap cellsL).length ≤ cur.size := by
    rw [Nat.zero_add, hnl, h10]; exact Nat.mul_le_mul_right _ (by omega)
  have hld := run_loadCells_list (P := P) w ⟨sb, so, none⟩ (us'.flatMap cellsL) hnews
  have hst := run_storeCells_at P g 0 e (us'.flatMap cellsL) 0 cur w h7 (by simpa using hfit) hone2
  have hE : ExtX (ob (some ⟨g, 0, none⟩)) w (w.setRow g (cur.toList.take (0 + 0) ++ us'.flatMap cellsL ++ cur.toList.drop (0 + 0 + (us'.flatMap cellsL).length)).toArray) :=
    ⟨rfl, rfl, rfl, by simp, fun k _ hk => setRow_other w g k _ (fun ek => by subst ek; simp [ob] at hk)⟩
  have hmin : Nat.min xs.length l.length = xs.length := Nat.min_eq_left hk
  have hdl : ∀ u ∈ us' ++ us.drop xs.length, u.cells.size = sz := by
    intro u hu
    rcases List.mem_append.1 hu with hu | hu
    · exact hus' u hu
    · exact h2 u (List.mem_of_mem_drop hu)
  have hlen2 : (us' ++ us.drop xs.length).length = (xs ++ l.drop xs.length).length := by simp [hlen, h1]
  refine ⟨_, ?_, ⟨hx, us' ++ us.drop xs.length, hlen2, hdl, ?_, ⟨?_, .inr ⟨g, cap, _, by simp, h6, setRow_heap w g cur _ e _ h7, by simp; omega, h9, ?_, ?_⟩⟩, ?_⟩, hE⟩
  · have hld2 : (loadCells ⟨sb, so, none⟩ (xs.length * i.size)).run P w = .ok (us'.flatMap cellsL).toArray w := by rw [hsz, ← hnl]; exact hld
    simp [Builtin.copy_, run_underlying T.und, Builtin.lenOf, Builtin.firstCells, sizeOf, typeInfo, hi, hmin, hld2, hst]
  · intro u hu c hc
    rcases List.mem_append.1 hu with hu | hu
    · exact hone' u hu c hc
    · exact h22 u (List.mem_of_mem_drop hu) c hc
  · rw [flat_length _ hdl, hlen2]
  · simp only [List.size_toArray, List.length_append, List.length_take, List.length_drop, Array.length_toList, h10, Nat.add_zero, Nat.zero_add, hnl]
    have := Nat.mul_le_mul_right sz (show xs.length ≤ cap by omega)
    omega
  · rcases h3.2 with ⟨hv, _⟩ | ⟨g', c', cur', hv, _, h7', _, _, _, h11⟩
    · simp at hv
    simp at hv
    obtain ⟨rfl, rfl⟩ := hv
    rw [h7] at h7'
    obtain rfl : cur = cur' := by simpa using h7'
    have hfu : us.flatMap cellsL = (us.take xs.length).flatMap cellsL ++ (us.drop xs.length).flatMap cellsL := by
      rw [← List.flatMap_append, List.take_append_drop]
    have hft : ((us.take xs.length).flatMap cellsL).length = xs.length * sz := by
      rw [flat_length _ (fun u hu => h2 u (List.mem_of_mem_take hu))]; simp [h1, Nat.min_eq_left hk]
    have hdr : (us.drop xs.length).flatMap cellsL = (cur.toList.take (l.length * sz)).drop (xs.length * sz) := by
      rw [h11, hfu, ← hft, List.drop_left]
    rw [List.flatMap_append, hdr]
    simp only [Nat.zero_add, List.take_zero, List.nil_append, hnl, List.length_append, List.length_drop, Nat.add_sub_cancel' hk]
    rw [List.take_append, List.take_of_length_le (by rw [hnl]; exact Nat.mul_le_mul_right _ hk), hnl, List.drop_take]
  · intro j hj hj'
    have hle : Le (mk (un X (some ⟨g, 0, none⟩)) w) (mk (un X (some ⟨g, 0, none⟩)) _) := mkun_over hE (.inl rfl)
    by_cases hlt : j < us'.length
    · simpa [List.getElem_append_left hlt, List.getElem_append_left (show j < xs.length by omega)] using hR.mono _ _ _ _ hle (hxs j hlt (by omega))
    · have hj2 : xs.length + (j - xs.length) < us.length := by simp at hj; omega
      have := hR.mono _ _ _ _ hle (h5 (xs.length + (j - xs.length)) hj2 (by omega))
      have e1 : xs.length + (j - xs.length) = j := by omega
      simpa [List.getElem_append_right (show us'.length ≤ j by omega), List.getElem_append_right (show xs.length ≤ j by omega), hlen, e1] using this
/-- copy(row, x). -/
theorem st_copyTo {t by_ : Nat} {z : Value} {s x : Operand} {sa : Option Addr} {ca n k : Nat} (T : SliceT P t e sz by_ z) (hR : Elem R sz) (xs : List α) (hs : a.eval s = .slice ao n cap) (hn : l.length = n) (hx : a.eval x = .slice sa k ca) (hkx : xs.length = k) (h : OL R sz X base e w ao cap l)
    (hxs : Sl R sz (mk (un X ao) w) sa xs) (hk : k ≤ n) (h0 : 0 < k)
    (K : ∀ w', OL R sz X base e w' ao cap (xs ++ l.drop k) → ExtX (ob ao) w w' → wpList P ops Q rest (a.put d (.int .i64 (k : Int))) w') :
    wpList P ops Q (⟨d, .call { callee := .builtin .copy, args := #[s, x], argTypes := #[t, t] }, ty, ps, af, none⟩ :: rest) a w := by
  refine wpList_plain rfl fun K' hK' => ?_
  subst hn; subst hkx
  obtain ⟨us, h1, h2, h3⟩ := hxs.at_ hR
  obtain ⟨w', hr, h2, h3⟩ := h.run_copy (P := P) T hR sa ca us xs h2 h1 h3 hk h0 ty
  unfold Oper.wp execOp
  simp only [resolve, invoke, builtin, Sem.run_bind, Sem.run_pure, Result.andThen_ok, List.map_toArray, List.map_cons, List.map_nil, hs, hx, hr]
  exact hK' _ _ (K w' h2 h3)
theorem step_copyTo {o : Oper} {K : Act → World → Prop} {E : Prop} {t by_ : Nat} {z : Value} {s x : Operand} {sa : Option Addr} {ca n k : Nat} (hg : o.guard = none) (hop : o.op = Op.call { callee := Callee.builtin Builtin.copy, args := #[s, x], argTypes := #[t, t] }) (T : SliceT P t e sz by_ z) (hR : Elem R sz) (xs : List α) (hs : a.eval s = .slice ao n cap) (hn : l.length = n) (hx : a.eval x = .slice sa k ca) (hkx : xs.length = k) (h : OL R sz X base e w ao cap l)
    (hxs : Sl R sz (mk (un X ao) w) sa xs) (hk : k ≤ n) (h0 : 0 < k)
    (hK : ∀ w', OL R sz X base e w' ao cap (xs ++ l.drop k) → ExtX (ob ao) w w' → K (a.put o.dst (.int .i64 (k : Int))) w') :
    if Region.wanted o (yielded ops a.tmps) = true then Oper.wp P o a w K Q else E := by
  have hw : Region.wanted o (yielded ops a.tmps) = true := by simp [Region.wanted, hg]
  rw [if_pos hw]
  subst hn; subst hkx
  obtain ⟨us, h1, h2, h3⟩ := hxs.at_ hR
  obtain ⟨w', hr, h2, h3⟩ := h.run_copy (P := P) T hR sa ca us xs h2 h1 h3 hk h0 o.type
  unfold Oper.wp execOp
  rw [hop]
  simp only [resolve, invoke, builtin, Sem.run_bind, Sem.run_pure, Result.andThen_ok, List.map_toArray, List.map_cons, List.map_nil, hs, hx, hr]
  exact hK _ h2 h3
end
end Go.Rep


namespace Go.Lin
open Go.Lim
/-- What the program's Det computes. -/
noncomputable def detV (m : Mat) (n : Nat) : Rat := if (eN m n).2.2 then - pr n (fun i => ent (eN m n).1 i i) else pr n (fun i => ent (eN m n).1 i i)
theorem detV_det {n : Nat} {m : Mat} (hn : n ≤ 4) (hs : Shp n n m) : detV m n = det n (ent m) := by
  have hk := eN_ok hs n
  have h1 := hk.ech.det hn
  have h2 := hk.re.det_same hn
  unfold detV
  rw [← h1, h2]
  split <;> grind
theorem pr_hq {B : Nat} {f : Nat → Rat} (h : ∀ i, hq (f i) ≤ B) (n : Nat) : hq (pr n f) ≤ 1 + n * B := by
  induction n with
  | zero => show hq 1 ≤ _; have h3 : hq 1 = 1 := by decide +kernel
            omega
  | succ n ih =>
    have h1 := hq_mul (pr n f) (f n)
    have h2 := h n
    show hq (pr n f * f n) ≤ _
    rw [Nat.add_mul, Nat.one_mul]; omega
/-- What the program's Rank computes. -/
noncomputable def rankV (m : Mat) (c : Nat) : Nat := (eN m c).2.1.length
theorem rankV_red (m : Mat) (c : Nat) : rankV m c = (redP m c).2.length := rfl
end Go.Lin


namespace Go.Lin
open Go.Lim
end Go.Lin


namespace Go.Proofs.YtjbhcniiioepgaaGreat
open Go.RowKit Go.Rep Go.Lim Go.Lin

end Go.Proofs.YtjbhcniiioepgaaGreat


namespace Go.Lin
open Go.Lim
theorem shpc {n c : Nat} {m : Mat} (h : Shp n c m) (hn : 1 ≤ n) : colsL m = c := by
  rw [colsL_pos (by rw [h.1]; exact hn)]; exact h.2 _ (List.getElem_mem _)
theorem bm_hb {B : Nat} {m : Mat} (h : Go.Rep.BM B m) (hB : 1 ≤ B) : HB B m := fun i j => by
  unfold ent
  by_cases hi : i < m.length
  · have e : m.getD i [] = m[i] := by simp [List.getD_eq_getElem?_getD, hi]
    rw [e]
    by_cases hj : j < (m[i]).length
    · have := h m[i] (List.getElem_mem _) (m[i])[j] (List.getElem_mem _)
      simpa [List.getD_eq_getElem?_getD, hj] using this
    · rw [List.getD_eq_getElem?_getD, List.getElem?_eq_none (by omega)]
      show hq 0 ≤ B
      rw [hq_zero]; exact hB
  · rw [List.getD_eq_getElem?_getD (l := m), List.getElem?_eq_none (by omega)]
    show hq 0 ≤ B
    rw [hq_zero]; exact hB
theorem hb_bm {B : Nat} {m : Mat} (h : HB B m) : Go.Rep.BM B m := fun r hr q hq => by
  obtain ⟨i, hi, rfl⟩ := List.getElem_of_mem hr
  obtain ⟨j, hj, rfl⟩ := List.getElem_of_mem hq
  have := h i j
  simpa [ent, List.getD_eq_getElem?_getD, hi, hj] using this
end Go.Lin
namespace Go.Proofs.YtjbhcniiioepgaaGreat
open Go.RowKit Go.Rep Go.Lim Go.Lin

end Go.Proofs.YtjbhcniiioepgaaGreat


namespace Go.Lin
open Go.Lim
theorem detV_hq {m : Mat} {n : Nat} (hT : TameE m n) (hn : n ≤ 6) : hq (detV m n) ≤ 68719476736 := by
  obtain ⟨B, hB7, hBj⟩ := hT
  have hBn := hBj n (Nat.le_refl _)
  have h1 := pr_hq (f := fun i => ent (eN m n).1 i i) (fun i => hBn i i) n
  have h2 : n * B ≤ 6 * B := Nat.mul_le_mul_right _ hn
  unfold detV
  split
  · rw [hq_neg]; omega
  · omega
end Go.Lin


namespace Go.Lin
open Go.Lim
/-- The matrix with the unit matrix at its right side. -/
def wideI (m : Mat) (n : Nat) : Mat := (List.range n).map fun i => m.getD i [] ++ (List.replicate n 0).set i 1
theorem wideI_shp {m : Mat} {n : Nat} (hs : Shp n n m) : Shp n (2 * n) (wideI m n) := ⟨by simp [wideI], fun r hr => by
  obtain ⟨i, hi, rfl⟩ := List.mem_map.1 hr
  rw [List.length_append, hs.row (List.mem_range.1 hi), List.length_set, List.length_replicate]; omega⟩
theorem ent_wideI {m : Mat} {n : Nat} (hs : Shp n n m) (i : Nat) (hi : i < n) (j : Nat) (hj : j < 2 * n) : ent (wideI m n) i j = if j < n then ent m i j else if j = n + i then 1 else 0 := by
  have hr := hs.row hi
  have e : (wideI m n).getD i [] = m.getD i [] ++ (List.replicate n 0).set i 1 := by simp [wideI, List.getD_eq_getElem?_getD, hi]
  unfold ent
  rw [e, List.getD_eq_getElem?_getD]
  by_cases h : j < n
  · rw [if_pos h, List.getElem?_append_left (by omega), ← List.getD_eq_getElem?_getD]
  · rw [if_neg h, List.getElem?_append_right (by omega), hr, List.getElem?_set]
    by_cases h2 : i = j - n
    · rw [if_pos h2, if_pos (show j = n + i by omega)]
      simp [show i < n from hi]
    · rw [if_neg h2, if_neg (show ¬ j = n + i by omega)]
      simp [show j - n < n by omega]
theorem wideI_li {m : Mat} {n : Nat} (hs : Shp n n m) : LI n (2 * n) (ent (wideI m n)) := fun y hy i hi => by
  have h1 := hy (n + i) (by omega)
  unfold cmb at h1
  rw [sm_one i hi fun q hq hqi => by
    rw [ent_wideI hs q hq (n + i) (by omega), if_neg (by omega), if_neg (by omega)]; grind] at h1
  rw [ent_wideI hs i hi (n + i) (by omega), if_neg (by omega), if_pos rfl] at h1
  grind
/-- The pivots of the widened matrix are asl many asl rows. -/
theorem wideI_full {m : Mat} {n : Nat} (hs : Shp n n m) : (redP (wideI m n) (2 * n)).2.length = n := by
  obtain ⟨h1, h2, d, h3⟩ := redP_ok (wideI_shp hs)
  exact (wideI_li hs).full h2 h3
theorem RE.cols {n c c' : Nat} {f g : F2} {d : Rat} (h : RE n c f g d) (hc : c' ≤ c) : RE n c' f g d := by
  induction h with
  | same h => exact .same fun i hi j hj => h i hi j (by omega)
  | swap i k hi hk hik h1 h2 h3 => exact .swap i k hi hk hik (fun j hj => h1 j (by omega)) (fun j hj => h2 j (by omega)) (fun r hr a b j hj => h3 r hr a b j (by omega))
  | scale i a hi ha h1 h3 => exact .scale i a hi ha (fun j hj => h1 j (by omega)) (fun r hr a j hj => h3 r hr a j (by omega))
  | add i k a hi hk hik h1 h3 => exact .add i k a hi hk hik (fun j hj => h1 j (by omega)) (fun r hr a j hj => h3 r hr a j (by omega))
  | trans _ _ ih1 ih2 => exact (ih1).trans (ih2)
/-- Singular: the last pivot lies in the unit matrix. -/
def singP (m : Mat) (n : Nat) : Prop := 0 < n ∧ n ≤ (redP (wideI m n) (2 * n)).2.getD (n - 1) 0
theorem wideI_re {m : Mat} {n : Nat} (hs : Shp n n m) : ∃ d, RE n n (ent m) (ent (redP (wideI m n) (2 * n)).1) d := by
  obtain ⟨h1, h2, d, h3⟩ := redP_ok (wideI_shp hs)
  refine ⟨d, (h3.cols (show n ≤ 2 * n by omega)).congr fun i hi j hj => ?_⟩
  rw [ent_wideI hs i hi j (by omega), if_pos hj]
theorem sing_det {m : Mat} {n : Nat} (hn : n ≤ 4) (hs : Shp n n m) : singP m n ↔ detV m n = 0 := by
  rw [detV_det hn hs]
  obtain ⟨h1, h2, _, h3⟩ := redP_ok (wideI_shp hs)
  obtain ⟨d, hd⟩ := wideI_re hs
  have hfull := wideI_full hs
  have h4 := hd.det_same hn
  have h5 := hd.ne
  obtain ⟨⟨R, p⟩, hS⟩ : ∃ S, redP (wideI m n) (2 * n) = S := ⟨_, rfl⟩
  unfold singP
  rw [hS] at h1 h2 h3 hd hfull h4 ⊢
  dsimp only at h1 h2 h3 hd hfull h4 ⊢
  by_cases h0 : n = 0
  · subst h0
    constructor
    · intro h; omega
    · intro h; exfalso; rw [det_0] at h; grind
  · have hl : n - 1 < p.length := by omega
    have e : p.getD (n - 1) 0 = p[n - 1] := by simp [List.getD_eq_getElem?_getD, hl]
    rw [e]
    constructor
    · rintro ⟨_, hge⟩
      have h6 : det n (ent R) = 0 := det_row0 hn _ (n - 1) (by omega) fun j hj => h2.left (n - 1) hl j (by omega)
      rw [h6] at h4
      rcases Rat.mul_eq_zero.1 h4.symm with h7 | h7
      · exact absurd h7 h5
      · exact h7
    · intro h
      refine ⟨by omega, Classical.byContradiction fun hlt => ?_⟩
      have hc : ∀ i (hi : i < p.length), p[i] < n := fun i hi => by
        by_cases h8 : i = n - 1
        · subst h8; omega
        · have := h2.inc i (n - 1) (by omega) hl; omega
      have h6 : det n (ent R) = 1 := by rw [det_congr (h2.unit hfull hc), det_unit hn]
      rw [h6, h] at h4; grind
/-- What the program's Inverse returns. -/
noncomputable def invL (m : Mat) (n : Nat) : Mat := (redP (wideI m n) (2 * n)).1.map (·.drop n)
theorem invL_shp {m : Mat} {n : Nat} (hs : Shp n n m) : Shp n n (invL m n) := by
  obtain ⟨h1, _⟩ := redP_ok (wideI_shp hs)
  refine ⟨by simp [invL, h1.1], fun r hr => ?_⟩
  obtain ⟨x, hx, rfl⟩ := List.mem_map.1 hr
  rw [List.length_drop, h1.2 x hx]; omega
end Go.Lin


namespace Go.Lin
/-- A matrix of zeros. -/
def zerL (r c : Nat) : Mat := List.replicate r (List.replicate c 0)
theorem zerL_len (r c : Nat) : (zerL r c).length = r := List.length_replicate
theorem zerL_get {r c i : Nat} (h : i < (zerL r c).length) : (zerL r c)[i] = List.replicate c 0 := List.getElem_replicate h
theorem wideI_copy {x : List Rat} {n : Nat} : x ++ (List.replicate (2 * n) (0 : Rat)).drop n = x ++ List.replicate n 0 := by
  rw [List.drop_replicate, show 2 * n - n = n by omega]
theorem wideI_put {x : List Rat} {n i : Nat} (h : x.length = n) : (x ++ List.replicate n (0 : Rat)).set (n + i) 1 = x ++ (List.replicate n 0).set i 1 := by
  rw [List.set_append_right _ _ (by omega), h, show n + i - n = i by omega]
theorem wideI_get {m : Mat} {n i : Nat} (h : i < (wideI m n).length) (hi : i < m.length) : (wideI m n)[i] = m[i] ++ (List.replicate n 0).set i 1 := by
  simp [wideI, hi, List.getD_eq_getElem?_getD]
theorem colsL_sq {m : Mat} {n c : Nat} (h : Shp n c m) (hc : n = 0 → c = 0) : Go.Lin.colsL m = c := by
  by_cases h0 : n = 0
  · have : m = [] := List.eq_nil_of_length_eq_zero (by rw [h.1]; exact h0)
    subst this; rw [hc h0]; rfl
  · exact shpc h (by omega)
end Go.Lin
namespace Go.Proofs.YtjbhcniiioepgaaGreat
open Go.RowKit Go.Rep Go.Lim Go.Lin

/-- What Inverse returns. -/
def InvOut (X : Nat → Bool) (w : World) (m : List (List Rat)) (n : Nat) (e : Ending) (w' : World) : Prop := Ext w w' ∧ ((singP m n ∧ e = .returned (.tuple #[.slice none 0 0, .int .i64 7])) ∨ (¬ singP m n ∧ ∃ u, e = .returned (.tuple #[u, .int .i64 0]) ∧ MC (mk X w') u (invL m n)))

theorem inverse_no (X : Nat → Bool) (w : World) (u : Value) (m : List (List Rat)) (hu : MV (mk X w) u m) (hl : m.length ≤ 1099511627776) (hf : formedB m = false) : Calls Tryz.prog 39 #[u] w (fun e w' => w' = w ∧ e = .returned (.tuple #[.slice none 0 0, .int .i64 6])) := by
  have hfo := formed_any X w u m hu hl
  rw [hf] at hfo
  clear hf
  go_enter Tryz.func39, Tryz.ntmps39
  go_wp2_with fail
  refine hfo.mono ?_
  rintro e w1 ⟨rfl, rfl⟩
  go_wp2_with fail
  go_ret2
  exact ⟨rfl, rfl⟩

set_option maxRecDepth 100000 in
set_option maxHeartbeats 1600000 in
theorem inverse_ok (X : Nat → Bool) (w : World) (u : Value) (m : List (List Rat)) (n : Nat) (hX : HX X w) (hu : MV (mk X w) u m) (hf : formedB m = true) (hnn : m.length = n) (hcc : colsL m = n) (hT : Tame (wideI m n) (2 * n)) : Calls Tryz.prog 39 #[u] w (InvOut X w m n) := by
  obtain ⟨hsh, h96, hc96, _, _⟩ := formedB_shp hf
  rw [hnn, hcc] at hsh
  rw [hnn] at h96
  have hfo := formed_any X w u m hu (by omega)
  rw [hf] at hfo
  have hcol := columns_any X w u m hu
  rw [hcc] at hcol
  have hsh' := hid hsh
  have hnn' := hid hnn
  have hcc' := hid hcc
  have hWs := hid (wideI_shp hsh)
  have hTt := hid hT
  have hIs := hid (invL_shp hsh)
  have hfull := hid (wideI_full hsh)
  have hwg : Hid (∀ i (h : i < (wideI m n).length) (hi : i < m.length), (wideI m n)[i] = m[i] ++ (List.replicate n 0).set i 1) := hid fun i h hi => wideI_get h hi
  have hWc : Hid (colsL (wideI m n) = 2 * n) := hid (colsL_sq (wideI_shp hsh) (by omega))
  have hsg : Hid (singP m n ↔ 0 < n ∧ n ≤ (redP (wideI m n) (2 * n)).2.getD (n - 1) 0) := hid Iff.rfl
  have hiv : Hid (invL m n = (redP (wideI m n) (2 * n)).1.map (·.drop n)) := hid rfl
  obtain ⟨W, hW⟩ : ∃ W, wideI m n = W := ⟨_, rfl⟩
  rw [hW] at hWs hTt hfull hwg hWc hsg hiv
  obtain ⟨ua, uca, rfl, huca, hua⟩ := hu
  have hu : MV (mk X w) (.slice ua m.length uca) m := ⟨ua, uca, rfl, huca, hua⟩
  rw [hnn] at hfo hcol hu ⊢
  have hw2 : wrap64 (2 * (n : Int)) = ((2 * n : Nat) : Int) := by rw [IntWalk.wrap64_in _ (by omega)]; omega
  clear hf hnn hcc hsh huca hua hW hT
  go_enter Tryz.func39, Tryz.ntmps39
  go_wp2_with fail
  refine hfo.mono ?_
  rintro e w1 ⟨rfl, rfl⟩
  go_wp2_with fail
  refine hcol.mono ?_
  rintro e w2 ⟨rfl, rfl⟩
  go_wp2_with fail
  refine (zero_any X w2 n (2 * n) hX (by omega) (by omega)).mono ?_
  rintro e w3 ⟨hE3, ao, cap, hs, rfl, hM3⟩
  rw [List.length_replicate]
  have hlen : Hid (hs.length = n) := hid (by rw [hM3.len]; simp)
  have hhO : Hd ao n := by have := hM3.outer.hd; rw [hlen.out] at this; exact this
  have hX3 := hX.ext hE3
  have hZ3 := hM3.hz hX3
  have hu3 := hM3.old MV.mono hu hE3 (Nat.le_refl _) (fun _ _ h => h)
  obtain ⟨V, hV⟩ : ∃ V, zerL n (2 * n) = V := ⟨_, rfl⟩
  have hVl : Hid (V.length = n) := hid (by rw [← hV]; exact zerL_len _ _)
  have hVg : Hid (∀ i (h : i < V.length), V[i] = List.replicate (2 * n) 0) := hid fun i h => by subst hV; exact zerL_get h
  have hWV : Hid (W.length = V.length) := hid (by rw [hVl.out]; exact hWs.out.1)
  change MO X w2.heap.size _ _ w3 ao cap hs (zerL n (2 * n)) at hM3
  rw [hV, ← mix_zero W V] at hM3
  have hco := copied_any (mz X ao hs) w3 _ m n n hZ3 hu3 hsh'.out hcc'.out (by omega) (by omega)
  clear hfo hcol hu hu3 hV
  go_wp2_with fail
  refine hco.mono ?_
  rintro e w4 ⟨hE4, bo, capb, hs4, rfl, hM4⟩
  have hmc4 := hM4.mc
  rw [hnn'.out] at hmc4 ⊢
  have hM34 := hM3.ext0 hE4
  have hE04 := hE3.trans hE4
  obtain ⟨ba, bca, heq, hbca, hsb⟩ := hmc4
  simp only [Value.slice.injEq] at heq
  obtain ⟨rfl, hx9, rfl⟩ := heq
  clear hx9
  have hhb := hsb.hd
  rw [hnn'.out] at hhb
  obtain ⟨Z, hZe⟩ : ∃ Z, mz X ao hs = Z := ⟨_, rfl⟩
  have hZ' := hid hZe
  rw [hZe] at hsb hZ3
  clear hco hM3 hM4 hZe
  go_wp2_with fail
  go_loopw [31] (fun k wr => ∃ (i : Nat), k = .int .i64 i ∧ i ≤ n ∧ MO X w2.heap.size 33 31 wr ao cap hs (mix W V i) ∧ Sl RC 1 (mk Z wr) bo m ∧ Ext w2 wr) (fun k _ => n - (intOf k).toNat)
  case atStart => exact ⟨0, rfl, Nat.zero_le _, hM34, hsb, hE04⟩
  case round =>
    obtain ⟨i, rfl, hi, hM, hsb, hE⟩ := hrel
    by_cases hlt : i < n
    · have him : i < m.length := by rw [hnn'.out]; exact hlt
      obtain ⟨a1, c1, hX1, hc1, hcl1, hq1⟩ := hsb.row i him
      have k00 := hc1.out noY wr (ExtX.refl _) rfl
      have hxl : Hid (m[i].length = n) := hid (hsh'.out.2 _ (List.getElem_mem _))
      have hiV : i < V.length := by rw [hVl.out]; exact hlt
      have hiW : i < W.length := by rw [hWV.out]; exact hiV
      have hWi := hid (hwg.out i hiW him)
      have hVi := hid (hVg.out i hiV)
      obtain ⟨x, hx⟩ : ∃ x, m[i] = x := ⟨_, rfl⟩
      rw [hx] at k00 hcl1 hq1 hxl hWi
      rw [hxl.out] at k00 hcl1
      have hh1 : Hd a1 n := by have := hq1.hd; rw [hxl.out] at this; exact this
      have hih : i < hs.length := by rw [hlen.out]; exact hlt
      have hmi : i < (mix W V i).length := by rw [mix_len hWV.out]; exact hiW
      have hmg : Hid ((mix W V i)[i] = List.replicate (2 * n) 0) := hid (by rw [mix_getElem hWV.out, if_neg (by omega)]; exact hVi.out)
      have hms : Hid ((mix W V i).set i (x ++ (List.replicate n (0 : Rat)).set i 1) = mix W V (i + 1)) := hid (by rw [← hWi.out]; exact mix_set hWV.out hiW)
      obtain ⟨a, na, cr, hhd⟩ : ∃ a na cr, hs[i] = (a, na, cr) := ⟨_, _, _, rfl⟩
      have hna : na = 2 * n := by
        have := hM.rlen i hih hmi
        rw [hhd, hmg.out, List.length_replicate] at this; exact this
      have hR := hM.row i hih hmi
      rw [hmg.out] at hR
      simp only [hhd] at hR
      have hz1 := fun k (hk : ob a k = true) => hM.mz_sub hih k (by rw [hhd]; exact hk)
      have hsp := fun k (hk : ob a k = true) => hM.sep i hih k (by rw [hhd]; exact hk)
      have hun : Hid (un (cut (mz X ao hs) a) a = Z) := hid (by rw [un_cut hz1]; exact hZ'.out)
      have hda : Hd a na := by have := hR.hd; rw [List.length_replicate, ← hna] at this; exact this
      have hna' := hid hna
      have y1 : wr.cell? (adr ao i) = some (.slice a na cr) := by
        have := (hM.hdr i hih).1
        rw [hhd] at this; exact this
      have haob : Hid (ob a (adr ao i).block = false) := hid (by
        cases hb : ob a (adr ao i).block
        · rfl
        · have h1 := (hsp _ hb).2
          obtain ⟨b0, o0, rfl⟩ := hhO (by omega)
          simp [ob, adr] at h1)
      have hhd' := hid hhd
      have hRl : Hid ((List.replicate (2 * n) (0 : Rat)).length = na) := hid (by rw [hna]; exact List.length_replicate)
      have hqz : Sl QC 3 (mk (un (cut (mz X ao hs) a) a) wr) a1 x := by rw [hun.out]; exact hq1
      clear hc1 hx hhd hna
      obtain ⟨wo, hwo⟩ : ∃ wo, wo = wr := ⟨_, rfl⟩
      subst hwo
      go_wp2_with (first | (with_reducible refine up_ix1 slRats (by omega) (by assumption) ?_) | (refine st_copyTo slRat QC.elem x rfl hRl.out rfl hxl.out hR hqz (by rw [hna'.out]; omega) (by omega) ?_; intro w5 hO5 hE5; have y5 := hE5.cellY y1 haob.out))
      have hxi : x ++ List.drop n (List.replicate (2 * n) (0 : Rat)) = x ++ List.replicate n 0 := wideI_copy
      rw [hxi] at hO5
      have hzz : ∀ k, ob a k = true → Z k = true := fun k hk => by rw [← hZ'.out]; exact hz1 k hk
      have hxr : Hid ((x ++ List.replicate n (0 : Rat)).length = na) := hid (by rw [List.length_append, List.length_replicate, hxl.out, hna'.out]; omega)
      have hM5 := hM.upd hih (l := x ++ List.replicate n 0) (show ExtX (ob hs[i].1) wo w5 by rw [hhd'.out]; exact hE5) (fun hi' => by rw [hmg.out, List.length_replicate, hxr.out, hna'.out]) (by rw [hhd'.out]; exact hO5)
      have hsb5 := hsb.mono RC.mono (mk_mono hE5 hzz)
      have hE05 := hM.ext_from hE (Nat.le_refl _) (ExtX.row hih (show ExtX (ob hs[i].1) wo w5 by rw [hhd'.out]; exact hE5))
      have hput : Hid ((x ++ List.replicate n (0 : Rat)).set (n + i) 1 = x ++ (List.replicate n 0).set i 1) := hid (wideI_put hxl.out)
      have hni : n + i < (x ++ List.replicate n (0 : Rat)).length := by rw [hxr.out, hna'.out]; omega
      have hZ5 : HX Z w5 := by
        have h1 := hM5.hz (hX.ext hE05)
        rw [hZ'.out] at h1; exact h1
      have hEd : Ext w5 w5.drew := (ExtX.refl w5).drew
      obtain ⟨L, hL⟩ : ∃ L, x ++ List.replicate n (0 : Rat) = L := ⟨_, rfl⟩
      rw [hL] at hO5 hM5 hxr hput hni
      obtain ⟨L2, hL2⟩ : ∃ L2, x ++ (List.replicate n (0 : Rat)).set i 1 = L2 := ⟨_, rfl⟩
      rw [hL2] at hput hms
      have hL2l : Hid (L2.length = L.length) := hid (by rw [← hput.out, List.length_set])
      obtain ⟨g, o, hg⟩ : ∃ g o, adr a ((n + i) * 3) = ⟨g, o, none⟩ := ⟨_, _, rfl⟩
      have ew : IntKind.i64.wrap ((n : Int) + (i : Int)) = (n : Int) + (i : Int) := IntWalk.i64_in _ (by omega)
      have i2 : ∀ W, (Instr.indexAt 33 (.slice a na cr) (.int .i64 ((n : Int) + (i : Int)))).run Tryz.prog W = .ok (.pointer (some ⟨g, o, none⟩)) W := by
        rw [← hg, show (n : Int) + (i : Int) = ((n + i : Nat) : Int) by omega]; exact run_indexAt_adr slRat a na cr .i64 (n + i) hda (by rw [hna'.out]; omega)
      have i1 : ∀ W, (Instr.indexAt 23 (.slice ao n cap) (.int .i64 (i : Int))).run Tryz.prog W = .ok (.pointer (some (adr ao i))) W := run_ix1 slRats ao n cap .i64 i hhO (by omega) rfl
      have hg' := hid hg
      have hS : Hid (∀ Y W', ExtX Y w5.drew W' → Y (adr ao i).block = false → W'.cell? (adr ao i) = some (.slice a na cr)) := hid fun Y W' h hy1 => h.cellY (hEd.cell y5) hy1
      have k20 := hS.out noY w5.drew (ExtX.refl _) rfl
      have hO5d := hO5.ext0 QC.elem hEd
      have qf := qfrom Z w5.drew 1 (hZ5.ext hEd) (by omega) (by omega)
      have h1r : ((1 : Int) : Rat) = 1 := by decide +kernel
      rw [h1r] at qf
      have hun' : Hid (un (cut (mz X ao hs) a) a = Z) := hun
      clear h1r hxi hL hL2 hg y1 y5 hR hqz hq1 k00 hM hsb
      go_region_held3 (fun w' => w'.cell? (adr ao i) = some (.slice a na cr))
        (first | exact hS.out noY _ t1 rfl | exact hS.out (ob a) _ ((ExtX.of t1).trans hset.2) haob.out | go_keep)
        ((go_at_call 97; (with_reducible refine qf.mono ?_); rintro ee w6 ⟨t1, u6, rfl, hu6⟩; obtain ⟨s6, a6, n6, c6, d6, k6, e6, rfl⟩ := hu6.shape; have hO6 := hO5d.ext0 QC.elem t1; obtain ⟨_, v0, v1, v2, _, ⟨g0, f0⟩, ⟨g1, f1⟩, ⟨g2, f2⟩, _⟩ := hO6.cell3 (n + i) hni hg'.out; have hset := hO6.set3 tyRat QC.elem (n + i) hni hg'.out (v0 := .bool s6) (v1 := .slice a6 n6 c6) (v2 := .slice d6 k6 e6) (x := 1) (by rw [hun'.out]; exact hu6)))
      obtain ⟨q1, q2⟩ := hset
      rw [hput.out] at q1
      obtain ⟨w8, hw8⟩ : ∃ w8, ((w6.setCell ⟨g, o, none⟩ (.bool s6)).setCell ⟨g, o + 1, none⟩ (.slice a6 n6 c6)).setCell ⟨g, o + 2, none⟩ (.slice d6 k6 e6) = w8 := ⟨_, rfl⟩
      rw [hw8] at q1 q2 ⊢
      have q2' : ExtX (ob hs[i].1) w6 w8 := by rw [hhd'.out]; exact q2
      have hM6 := hM5.ext0 (hEd.trans t1)
      have hM7 := hM6.upd hih (l := L2) q2' (fun hi' => by rw [List.getElem_set_self]; exact hL2l.out) (by rw [hhd'.out]; exact q1)
      rw [List.set_set, hms.out] at hM7
      have hs8 := (hsb5.mono RC.mono (mk_ext (hEd.trans t1))).mono RC.mono (mk_mono q2 hzz)
      have hE8 := hM6.ext_from (hE05.trans (hEd.trans t1)) (Nat.le_refl _) (ExtX.row hih q2')
      clear k20 g0 g1 g2 f0 f1 f2 i1 i2 hw8 ew
      go_wp2_with fail
      go_roundw
      case rel => exact ⟨i + 1, by go_num, by omega, hM7, hs8, hE8⟩
      case measure => simp [intOf]; omega
    · have hin : i = n := by omega
      subst hin
      rw [mix_full (by rw [hWs.out.1]; exact Nat.le_refl _) (by rw [hVl.out]; exact Nat.le_refl _)] at hM
      go_wp2_with fail
      refine (mreduce_any X w2.heap.size wr ao cap i (2 * i) hs W (hX.ext hE) hM hWs.out hWc.out (by omega) (by omega) hTt.out).mono ?_
      rintro ee w7 ⟨hE7, po, pc, hs', rfl, hmb, hM7, hP7⟩
      rw [hfull.out]
      have hE07 := hM.ext_from hE (Nat.le_refl _) hE7
      have hmc7 := MC.mono _ _ _ _ (mk_sub (X := X) fun k _ hk => un_left hk) hM7.mc
      have hRs := hid (redP_ok hWs.out).1
      obtain ⟨⟨R, p⟩, hRp⟩ : ∃ S, redP W (2 * i) = S := ⟨_, rfl⟩
      rw [hRp] at hfull hiv hsg hRs hmc7 hP7
      dsimp only at hfull hiv hsg hRs hmc7 hP7
      rw [hRs.out.1] at hmc7
      have hX7 := hX.ext hE07
      have hdP : Hd po i := by have := hP7.hd; rw [hfull.out] at this; exact this
      have hpe : Hid (∀ h : i - 1 < p.length, p.getD (i - 1) 0 = p[i - 1]) := hid fun h => by simp [List.getD_eq_getElem?_getD, h]
      have hps : ∀ h : i - 1 < p.length, w7.cell? (adr po (i - 1)) = some (.int .i64 (p[i - 1] : Int)) := fun h => (hP7.sl (NatIn.elem _)).nat (i - 1) h
      have hps' := hid hps
      obtain ⟨w2, hw2'⟩ : ∃ x, x = w2 := ⟨_, rfl⟩
      subst hw2'
      clear hps hM34 hsb hM hM7 hw2 hRp hP7
      by_cases hsing : singP m i
      · obtain ⟨h0, hge⟩ := hsg.out.1 hsing
        have hpl : i - 1 < p.length := by rw [hfull.out]; omega
        rw [hpe.out hpl] at hge
        have c9 := hps'.out hpl
        have h0i : (0 : Int) < (i : Int) := by omega
        have hgi : (i : Int) ≤ (p[i - 1] : Int) := by omega
        obtain ⟨q, hq⟩ : ∃ q, (p[i - 1] : Int) = q := ⟨_, rfl⟩
        rw [hq] at c9 hgi
        have ew : wrap64 ((i : Int) - 1) = (i : Int) - 1 := IntWalk.wrap64_in _ (by omega)
        have i3 : ∀ W, (Instr.indexAt 22 (.slice po i pc) (.int .i64 ((i : Int) - 1))).run Tryz.prog W = .ok (.pointer (some (adr po (i - 1)))) W := run_ix1 slInt po i pc .i64 (i - 1) hdP (by omega) (by omega)
        clear hq hge h0 hE7
        go_wp2_with fail
        go_ret2
        exact ⟨hE07, .inl ⟨hsing, rfl⟩⟩
      · have hcase : (¬ (0 : Int) < (i : Int)) ∨ ((0 : Int) < (i : Int) ∧ ∃ q : Int, w7.cell? (adr po (i - 1)) = some (.int .i64 q) ∧ ¬ (i : Int) ≤ q) := by
          by_cases h0 : i = 0
          · exact .inl (by omega)
          · have hpl : i - 1 < p.length := by rw [hfull.out]; omega
            refine .inr ⟨by omega, _, hps'.out hpl, fun hle => hsing (hsg.out.2 ⟨by omega, ?_⟩)⟩
            rw [hpe.out hpl]; omega
        have hns := hid hsing
        have hz7 := zero_any X w7 i i hX7 (by omega) (by omega)
        have ew : wrap64 ((i : Int) - 1) = (i : Int) - 1 ∨ i = 0 := by
          by_cases h0 : i = 0
          · exact .inr h0
          · exact .inl (IntWalk.wrap64_in _ (by omega))
        have i3' : Hid (0 < i → ∀ W, (Instr.indexAt 22 (.slice po i pc) (.int .i64 ((i : Int) - 1))).run Tryz.prog W = .ok (.pointer (some (adr po (i - 1)))) W) := hid fun h => run_ix1 slInt po i pc .i64 (i - 1) hdP (by omega) (by omega)
        clear hsing hE7
        rcases hcase with h0 | ⟨h0, q, c9, hgi⟩
        case' inl => clear ew
        case' inr =>
          have ew : wrap64 ((i : Int) - 1) = (i : Int) - 1 := ew.resolve_right (by omega)
          have i3 := i3'.out (by omega)
        all_goals
          go_wp2_with fail
          refine hz7.mono ?_
          rintro ee w8 ⟨hE8, ao2, cap2, hs2, rfl, hM8⟩
          rw [List.length_replicate]
          have hlen2 : Hid (hs2.length = i) := hid (by rw [hM8.len]; simp)
          have hhO2 : Hd ao2 i := by have := hM8.outer.hd; rw [hlen2.out] at this; exact this
          have hmc8 := hM8.old MC.mono hmc7 hE8 (Nat.le_refl _) (fun _ _ h => h)
          obtain ⟨ra, rca, heq, hrca, hsr⟩ := hmc8
          simp only [Value.slice.injEq] at heq
          obtain ⟨rfl, hx9, rfl⟩ := heq
          clear hx9
          obtain ⟨D, hD⟩ : ∃ D, invL m i = D := ⟨_, rfl⟩
          have hDs := hid (hD ▸ hIs.out)
          have hiv2 := hid (hD ▸ hiv.out)
          have hD' := hid hD
          obtain ⟨U, hU⟩ : ∃ U, zerL i i = U := ⟨_, rfl⟩
          have hUl : Hid (U.length = i) := hid (by rw [← hU]; exact zerL_len _ _)
          have hUg : Hid (∀ k (h : k < U.length), U[k] = List.replicate i 0) := hid fun k h => by subst hU; exact zerL_get h
          have hDU : Hid (D.length = U.length) := hid (by rw [hUl.out]; exact hDs.out.1)
          change MO X w7.heap.size _ _ w8 ao2 cap2 hs2 (zerL i i) at hM8
          rw [hU, ← mix_zero D U] at hM8
          have hE08 := hE07.trans hE8
          obtain ⟨Y, hYe⟩ : ∃ Y, mz X ao2 hs2 = Y := ⟨_, rfl⟩
          have hY' := hid hYe
          rw [hYe] at hsr
          clear hU hYe hD hz7
          go_wp2_with fail
          go_loopw [70] (fun k wr => ∃ (j : Nat), k = .int .i64 j ∧ j ≤ i ∧ MO X w7.heap.size 33 31 wr ao2 cap2 hs2 (mix D U j) ∧ Sl RC 1 (mk Y wr) ao R ∧ Ext w2 wr) (fun k _ => i - (intOf k).toNat)
          case atStart => exact ⟨0, rfl, Nat.zero_le _, hM8, hsr, hE08⟩
          case round =>
            obtain ⟨j, rfl, hj, hM, hsr, hE⟩ := hrel
            by_cases hlj : j < i
            · have hjR : j < R.length := by rw [hRs.out.1]; exact hlj
              obtain ⟨a1, c1, hX1, hc1, hcl1, hq1⟩ := hsr.row j hjR
              have k00 := hc1.out noY wr (ExtX.refl _) rfl
              have hxl : Hid (R[j].length = 2 * i) := hid (hRs.out.2 _ (List.getElem_mem _))
              have hjU : j < U.length := by rw [hUl.out]; exact hlj
              have hjD : j < D.length := by rw [hDU.out]; exact hjU
              have hDj : Hid (D[j] = R[j].drop i) := hid (by simp [hiv2.out])
              have hUj := hid (hUg.out j hjU)
              obtain ⟨x, hx⟩ : ∃ x, R[j] = x := ⟨_, rfl⟩
              rw [hx] at k00 hcl1 hq1 hxl hDj
              rw [hxl.out] at k00 hcl1
              obtain ⟨n2, hn2⟩ : ∃ n2, 2 * i = n2 := ⟨_, rfl⟩
              have hn2' := hid hn2
              rw [hn2] at k00 hcl1
              have hjh : j < hs2.length := by rw [hlen2.out]; exact hlj
              have hmj : j < (mix D U j).length := by rw [mix_len hDU.out]; exact hjD
              have hmg : Hid ((mix D U j)[j] = List.replicate i 0) := hid (by rw [mix_getElem hDU.out, if_neg (by omega)]; exact hUj.out)
              have hms : Hid ((mix D U j).set j (x.drop i) = mix D U (j + 1)) := hid (by rw [← hDj.out]; exact mix_set hDU.out hjD)
              obtain ⟨a, na, cr, hhd⟩ : ∃ a na cr, hs2[j] = (a, na, cr) := ⟨_, _, _, rfl⟩
              have hna : na = i := by
                have := hM.rlen j hjh hmj
                rw [hhd, hmg.out, List.length_replicate] at this; exact this
              have hR := hM.row j hjh hmj
              rw [hmg.out] at hR
              simp only [hhd] at hR
              have hz1 := fun k (hk : ob a k = true) => hM.mz_sub hjh k (by rw [hhd]; exact hk)
              have hsp := fun k (hk : ob a k = true) => hM.sep j hjh k (by rw [hhd]; exact hk)
              have hun : Hid (un (cut (mz X ao2 hs2) a) a = Y) := hid (by rw [un_cut hz1]; exact hY'.out)
              have y1 : wr.cell? (adr ao2 j) = some (.slice a na cr) := by
                have := (hM.hdr j hjh).1
                rw [hhd] at this; exact this
              have haob : Hid (ob a (adr ao2 j).block = false) := hid (by
                cases hb : ob a (adr ao2 j).block
                · rfl
                · have h1 := (hsp _ hb).2
                  obtain ⟨b0, o0, rfl⟩ := hhO2 (by omega)
                  simp [ob, adr] at h1)
              have hhd' := hid hhd
              have hna' := hid hna
              have hRl : Hid ((List.replicate i (0 : Rat)).length = na) := hid (by rw [hna]; exact List.length_replicate)
              have hq2 := hq1.sub i n2 c1 (by omega) (by omega) (by rw [hxl.out]; omega)
              rw [List.take_of_length_le (by rw [hxl.out]; omega)] at hq2
              have f1 : ∀ W, (Instr.sliceAt 33 (.slice a1 n2 c1) (some (.int .i64 (i : Int))) none none).run Tryz.prog W = .ok (.slice (subAddr a1 i c1 3) (n2 - i) (c1 - i)) W := run_slice_i slRat n2 c1 .i64 i (by omega) hcl1
              rw [show n2 - i = i by omega] at f1
              obtain ⟨sa, hsa⟩ : ∃ sa, subAddr a1 i c1 3 = sa := ⟨_, rfl⟩
              rw [hsa] at f1 hq2
              obtain ⟨sc, hsc⟩ : ∃ sc, c1 - i = sc := ⟨_, rfl⟩
              rw [hsc] at f1
              obtain ⟨xd, hxd⟩ : ∃ xd, x.drop i = xd := ⟨_, rfl⟩
              rw [hxd] at hq2 hms
              have hxdl : Hid (xd.length = i) := hid (by rw [← hxd, List.length_drop, hxl.out]; omega)
              have hqz : Sl QC 3 (mk (un (cut (mz X ao2 hs2) a) a) wr.drew) sa xd := by rw [hun.out]; exact hq2
              have i1 : ∀ W, (Instr.indexAt 23 (.slice ao2 i cap2) (.int .i64 (j : Int))).run Tryz.prog W = .ok (.pointer (some (adr ao2 j))) W := run_ix1 slRats ao2 i cap2 .i64 j hhO2 (by omega) rfl
              have hRd := hR.ext0 QC.elem (ExtX.refl (Y := noY) wr).drew
              have hSa : Hid (∀ Y2 W', ExtX Y2 wr.drew W' → Y2 (adr ao2 j).block = false → W'.cell? (adr ao2 j) = some (.slice a na cr)) := hid fun Y2 W' h hy1 => (((ExtX.refl wr).drew).trans h).cellY y1 hy1
              have k20 := hSa.out noY wr.drew (ExtX.refl _) rfl
              clear hx hc1 hhd hna hn2 hsa hsc hxd hR hq1 hq2
              obtain ⟨wo, hwo⟩ : ∃ wo, wo = wr := ⟨_, rfl⟩
              subst hwo
              go_wp2_with (with_reducible refine up_ix1 slRats (by omega) (by assumption) ?_)
              go_region_held3 (fun w' => w'.cell? (adr ao2 j) = some (.slice a na cr))
                (first | exact hSa.out noY _ (ExtX.refl _) rfl | exact hSa.out (ob a) _ hE5 haob.out | go_keep)
                (first | (refine step_copyTo rfl (by rfl) slRat QC.elem xd rfl hRl.out rfl hxdl.out hRd hqz (by rw [hna'.out]; exact Nat.le_refl _) (by omega) ?_; intro w5 hO5 hE5))
              have hxi : xd ++ List.drop i (List.replicate i (0 : Rat)) = xd := by rw [List.drop_replicate, Nat.sub_self, List.replicate_zero, List.append_nil]
              rw [hxi] at hO5
              have hzz : ∀ k, ob a k = true → Y k = true := fun k hk => by rw [← hY'.out]; exact hz1 k hk
              have hEr : ExtX (ob hs2[j].1) wo w5 := by rw [hhd'.out]; exact (ExtX.of (ExtX.refl wo).drew).trans hE5
              have hM5 := hM.upd hjh (l := xd) hEr (fun hi' => by rw [hmg.out, List.length_replicate, hxdl.out]) (by rw [hhd'.out]; exact hO5)
              rw [hms.out] at hM5
              have hs5 := (hsr.mono RC.mono (mk_ext (ExtX.refl wo).drew)).mono RC.mono (mk_mono hE5 hzz)
              have hE05 := hM.ext_from hE (by have := hE07.size; omega) (ExtX.row hjh hEr)
              clear k00 k20 y1 f1 i1 hRd hqz
              go_wp2_with fail
              go_roundw
              case rel => exact ⟨j + 1, by go_num, by omega, hM5, hs5, hE05⟩
              case measure => simp [intOf]; omega
            · have hji : j = i := by omega
              subst hji
              rw [mix_full (by rw [hDs.out.1]; exact Nat.le_refl _) (by rw [hUl.out]; exact Nat.le_refl _)] at hM
              have hmc := hM.mc
              rw [hDs.out.1, ← hD'.out] at hmc
              go_wp2_with fail
              go_ret2
              exact ⟨hE, .inr ⟨hns.out, _, rfl, hmc⟩⟩
end Go.Proofs.YtjbhcniiioepgaaGreat

