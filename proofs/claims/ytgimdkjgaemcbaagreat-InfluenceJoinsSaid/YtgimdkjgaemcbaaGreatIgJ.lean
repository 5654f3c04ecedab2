/- Parts of a proof: each theorem states what it proves, and its conditions. -/
import Derived.Test.YtgimdkjgaemcbaaGreatIgI
namespace Go.Proofs.YtgimdkjgaemcbaaGreat
open Go.RowKit Go.Rep Go.Lim Go.Lin
def CrvOut (X : Nat -> Bool) (w : World) (L : List Pc) (e : Ending) (w' : World) : Prop := Ext w w' /\ ∃ ao cap, e = .returned (.tuple #[.slice ao L.length cap, .int .i64 0]) /\ L.length <= cap /\ Sl LinR 14 (mk X w') ao L
set_option maxRecDepth 100000 in
set_option maxHeartbeats 3200000 in
theorem icurve_ok (X : Nat -> Bool) (w : World) (u : Value) (k t : Int) (l : List Rat) (B : Nat) (hX : HX X w) (hu : RV (mk X w) u l) (hk : knownL k t) (hf : fitsL k t l.length) (hl : l.length <= 19) (hB : BR B l) (hBB : B <= 100000) :
    Calls Tryz.prog 17 #[.agg #[.int .i64 k, .int .i64 t], u] w (CrvOut X w (crvL k t l)) := by
  obtain ⟨W, hW, hE, b0, hz⟩ := boxes1 w #[.int .i64 k, .int .i64 t] 28
  have hXW : HX (hidB X w.heap.size 1) W := hX.boxes hz
  have hu1 := RV.mono _ _ _ _ (le_boxes (nb := 1) hE) hu
  obtain ⟨b, hb⟩ : ∃ b, w.heap.size = b := ⟨_, rfl⟩
  have hbw : w.heap.size <= b := by omega
  rw [hb] at b0 hz hXW hu1
  obtain ⟨Z, hZ⟩ : ∃ Z, hidB X b 1 = Z := ⟨_, rfl⟩
  rw [hZ] at hXW hu1
  have hn1 : 1 <= l.length := hf.1
  obtain ⟨ao, ca, rfl, hca, hsa⟩ := hu
  have hck := icheck W k t ao l.length ca (by omega)
  rw [chkE_zero.2 ⟨hk, hf, by omega⟩] at hck
  have hso := hid fun w' (h : Ext W w') => isorted Z w' _ l (hXW.ext h) (mkx RV.mono hu1 h) (by omega) (fun q hq => Nat.le_trans (hB q hq) (by omega))
  have hpc := hid fun M w' u' vz vw z y (hM : HX M w') (hr : RV (mk M w') u' l) (hz : QV (mk M w') vz z) (hy : QV (mk M w') vw y) (b1 : hq z <= B + 10) (b2 : hq y <= B + 10) => ipiece M w' u' vz vw k t l z y (B + 10) hM hr hz hy hk (fits_more hf) hl (fun q hq => Nat.le_trans (hB q hq) (by omega)) b1 b2 (by omega)
  obtain ⟨S, hS⟩ : ∃ S, srt l = S := ⟨_, rfl⟩
  have hSl : Hid (S.length = l.length) := hid (by rw [<- hS, srt_len])
  have hSB : Hid (BR B S) := hid (by rw [<- hS]; exact srt_br hB)
  have hSp' := hid fun i => (List.Pairwise.sublist (List.take_sublist i S) (by rw [<- hS]; exact srt_pw l) : (S.take i).Pairwise (· <= ·))
  have hSf := hid (dd_facts _ S rfl (by rw [<- hS]; exact srt_pw l))
  have hcr : Hid (crvL k t l = mrgP (fun z => estL k t (l ++ [z])) (dd S) ((dd S).length + 1)) := hid (by rw [<- hS]; rfl)
  rw [hS] at hso
  have k0 : W.cell? ⟨b, 0, none⟩ = some (.int .i64 k) := b0.cell 0 rfl
  have k1 : W.cell? ⟨b, 1, none⟩ = some (.int .i64 t) := b0.cell 1 rfl
  obtain ⟨L, hL⟩ : ∃ L, crvL k t l = L := ⟨_, rfl⟩
  rw [hL] at hcr |-
  obtain ⟨f, hff⟩ : ∃ f, (fun z => estL k t (l ++ [z])) = f := ⟨_, rfl⟩
  rw [hff] at hpc hcr
  have hfB : Hid (∀ z, hq z <= B + 10 -> hq (f z) <= 50000000) := hid (by
    intro z hz
    rw [<- hff]
    exact est_hq (B := B + 10) (fun q hq => by
      rw [List.mem_append, List.mem_singleton] at hq
      rcases hq with h | rfl
      · exact Nat.le_trans (hB q h) (by omega)
      · exact hz) (by simp; omega) (by omega))
  obtain ⟨n, hn⟩ : ∃ n, l.length = n := ⟨_, rfl⟩
  rw [hn] at hck hca hl hSl hso hn1 hu1 |-
  have hn64 : ((n : Int) == 64) = false := beqF (by omega)
  clear hS hL hff hn hsa hf hk hB
  go_enter Tryz.func17, Tryz.ntmps17
  go_upto_region 7 with (first
    | (go_at_call 70; refine hck.mono ?_; rintro ee w1 ⟨hE1, rfl⟩))
  have hs1 := hso.out w1 hE1
  clear hso k0 k1 hck
  go_wp2_with (first
    | (go_at_call 71; refine hs1.mono ?_; rintro ee w2 ⟨hE2, oo, co, rfl, hO⟩))
  have hss := hO.sl QC.elem
  have hho := hO.hd
  rw [hSl.out] at hho
  have hXW2 := (hXW.ext hE1).ext hE2
  have hW2 := hid (hE1.trans hE2)
  clear hs1 hO
  go_loopw [7, 34] (fun o c wr => ∃ (i : Nat) (eo : Option Addr) (ec m : Nat) (D : List Rat), c = .int .i64 i /\ o = .slice eo m ec /\ i <= n /\ Hid (D = dd (S.take i)) /\ Hid (D.length = m) /\ OL QC 3 Z w2.heap.size 38 wr eo ec D /\ Ext w2 wr) (fun _ c _ => n - (intOf c).toNat)
  case atStart => exact ⟨0, none, 0, 0, [], rfl, rfl, Nat.zero_le _, hid rfl, hid rfl, OL.nil _ _ _ _ _ _, ExtX.refl _⟩
  case round =>
    obtain ⟨i, eo, ec, m, D, rfl, rfl, hi, hD, hDm, hOD, hE⟩ := hrel
    have hXr := hXW2.ext hE
    have hXu : HX (un Z eo) wr := hOD.unX hXr
    by_cases hlt : i < n
    · have hiS : i < S.length := by rw [hSl.out]; exact hlt
      have hsr := hss.mono QC.mono (mk_ext hE)
      have hsu := hid (hss.old QC.mono hE (fun j hj => hOD.ob_lt hj))
      have hst := hid (take_dd hiS)
      have hvB := hid (hSB.out _ (List.getElem_mem hiS))
      obtain ⟨v, hv⟩ : ∃ v, S[i] = v := ⟨_, rfl⟩
      have hv' := hid hv
      rw [hv] at hst hvB
      have hDl : Hid (m <= 19) := hid (by
        have h1 := dd_len (S.take i)
        rw [<- hD.out, hDm.out, List.length_take] at h1
        omega)
      have bx := Bx.new wr #[.bool false, .slice none 0 0, .slice none 0 0] 38
      clear hv
      go_upto_region 10 with (first | (with_reducible refine up_ixn slRat (by omega) (by assumption) ?_) | ((with_reducible show wpList _ _ _ (⟨_, .load 38 _, _, _, _, _⟩ :: _) _ _); refine st_loadElem stRat i hsu.out hiS rfl (by simp) QC.agg ?_; intro u5 hu5; rw [hv'.out] at hu5; obtain ⟨s5, a5, n5, c5, d5, k5, e5, rfl⟩ := hu5.shape) | ((with_reducible show wpList _ _ _ (⟨_, .store 38 _ _, _, _, _, _⟩ :: _) _ _); refine st_storeBox stRat rfl rfl bx rfl rfl (one3 _ _ _ _ _ _ _) ?_; intro w5 r1 r2; have hE5 : Ext wr w5 := ExtX.box ((ExtX.refl wr).alloc _) r2 (Nat.le_refl _)))
      obtain ⟨gv, hgv⟩ : ∃ g, wr.heap.size = g := ⟨_, rfl⟩
      rw [hgv] at r1
      rw [hgv]
      have hgl : w2.heap.size <= gv := by rw [<- hgv]; exact hE.size
      have hu6 := mkx QC.mono hu5 hE5
      have hXu5 : HX (un Z eo) w5 := HX.ext (w := wr) hXu hE5
      have hO5 := hOD.ext0 QC.elem hE5
      have hcnd : Hid ((decide (m = 0) || !decide (D.getLast? = some v)) = decide (¬ D.getLast? = some v)) := hid (by
        rcases Nat.eq_zero_or_pos m with h0 | h0
        · have : D = [] := List.length_eq_zero_iff.1 (by rw [hDm.out, h0])
          subst this; simp [h0]
        · simp [show m ≠ 0 by omega])
      obtain ⟨c, hc⟩ : ∃ c, decide (¬ D.getLast? = some v) = c := ⟨_, rfl⟩
      rw [hc] at hcnd
      have hc' := hid hc
      have hEd : Ext w5 w5.drew := (ExtX.refl w5).drew
      have hXd := HX.ext (w := w5) hXu5 hEd
      clear hc hu5 bx r2 hgv hsu hsr
      (try simp only [Act.put])
      go_cut [51] from 38 to 50 (fun q wx => q = .bool c /\ Ext w5 wx)
      case first =>
        rcases Nat.eq_zero_or_pos m with hm | hm
        · subst hm
          refine wp_region_K 13 (fun _ => True) (by kernel_rfl) (by kernel_rfl) trivial (fun hHeld hOnce => ?_)
          have hct : c = true := by rw [<- hcnd.out]; rfl
          refine kt 0 hOnce ?_
          refine kt 1 hOnce ?_
          refine kt 2 hOnce ?_
          refine kt 3 hOnce ?_
          refine ku 4 hOnce ?_
          refine ku 5 hOnce ?_
          refine ku 6 hOnce ?_
          refine ku 7 hOnce ?_
          refine ku 8 hOnce ?_
          refine ku 9 hOnce ?_
          refine ku 10 hOnce ?_
          refine ku 11 hOnce ?_
          refine ku 12 hOnce ?_
          refine kl 13 (fun K hK => ?_)
          go_simp
          refine hK.out _ _ ?_
          clear hK K
          go_wp2_with fail
          go_meet
          case rel => exact ⟨by rw [hct], hEd⟩
        · have hml : m - 1 < D.length := by rw [hDm.out]; omega
          obtain ⟨g2, o2, s6, a6, n6, c6, d6, k6, e6, hg2, hy2, hc2, hq2⟩ := hO5.rat QC.shaped (m - 1) hml
          have hhd : Hd eo m := by have := hOD.hd; rw [hDm.out] at this; exact this
          have hm0 : ((m : Int) == 0) = false := beqF (by omega)
          have ew : IntKind.i64.wrap ((m : Int) - 1) = (m : Int) - 1 := IntWalk.i64_in _ (by have := hDl.out; omega)
          have i2 : ∀ W, (Instr.indexAt 25 (.slice eo m ec) (.int .i64 ((m : Int) - 1))).run Tryz.prog W = .ok (.pointer (some ⟨g2, o2, none⟩)) W := by
            rw [<- hg2, show ((m : Int) - 1) = ((m - 1 : Nat) : Int) by omega]; exact run_indexAt_adr slRat eo m ec .i64 (m - 1) hhd (by omega)
          have hS : Hid (∀ w', Ext w5 w' -> w'.cell? ⟨g2, o2, none⟩ = some (.bool s6) /\ w'.cell? ⟨g2, o2 + 1, none⟩ = some (.slice a6 n6 c6) /\ w'.cell? ⟨g2, o2 + 2, none⟩ = some (.slice d6 k6 e6) /\ w'.cell? ⟨gv, 0, none⟩ = some (.bool s5) /\ w'.cell? ⟨gv, 1, none⟩ = some (.slice a5 n5 c5) /\ w'.cell? ⟨gv, 2, none⟩ = some (.slice d5 k5 e5)) := hid fun w' h =>
            ⟨(hc2.out _ _ h rfl).1, (hc2.out _ _ h rfl).2.1, (hc2.out _ _ h rfl).2.2, (r1.ext0 h).cell 0 rfl, (r1.ext0 h).cell 1 rfl, (r1.ext0 h).cell 2 rfl⟩
          have hDB : hq D[m - 1] <= 68719476736 := by
            have h1 : D[m - 1] ∈ S := by
              have h2 := List.getElem_mem hml
              have h3 := (dd_facts _ (S.take i) rfl (hSp'.out i)).1
              exact List.mem_of_mem_take ((h3 _).1 (by rw [<- hD.out]; exact h2))
            exact Nat.le_trans (hSB.out _ h1) (by omega)
          have heq := hid (eequal (un Z eo) w5.drew _ _ D[m - 1] v hXd ((mkx QC.mono hq2 hEd).qv hDB) ((mkx QC.mono hu6 hEd).qv (Nat.le_trans hvB.out (by omega))))
          have hlst : decide (D[m - 1] = v) = !c := by
            rw [<- hcnd.out, List.getLast?_eq_getElem?, hDm.out, List.getElem?_eq_getElem hml]
            simp [show m ≠ 0 by omega]
          rw [hlst] at heq
          clear hg2 hy2 hc2 hq2 hlst
          refine wp_region_K 13 (fun w' => w'.cell? ⟨g2, o2, none⟩ = some (.bool s6) /\ w'.cell? ⟨g2, o2 + 1, none⟩ = some (.slice a6 n6 c6) /\ w'.cell? ⟨g2, o2 + 2, none⟩ = some (.slice d6 k6 e6) /\ w'.cell? ⟨gv, 0, none⟩ = some (.bool s5) /\ w'.cell? ⟨gv, 1, none⟩ = some (.slice a5 n5 c5) /\ w'.cell? ⟨gv, 2, none⟩ = some (.slice d5 k5 e5)) (by kernel_rfl) (by kernel_rfl) (hS.out _ hEd) (fun hHeld hOnce => ?_)
          refine kt 0 hOnce ?_
          refine kt 1 hOnce ?_
          refine kt 2 hOnce ?_
          refine kt 3 hOnce ?_
          refine kt 4 hOnce ?_
          refine kt 5 hOnce ?_
          refine kt 6 hOnce ?_
          refine kt 7 hOnce ?_
          refine kt 8 hOnce ?_
          refine kt 9 hOnce ?_
          refine kt 10 hOnce ?_
          refine ks 11 (fun K hK => ?_)
          go_simp
          ((with_reducible refine heq.out.mono ?_); rintro ee wa ⟨ga, rfl⟩)
          refine kcn hK (hS.out _ (hEd.trans ga)) (fun hHeld => ?_)
          clear hK K
          refine kt 12 hOnce ?_
          refine kl 13 (fun K hK => ?_)
          go_simp
          refine hK.out _ _ ?_
          clear hK K
          go_wp2_with fail
          go_meet
          case rel => exact ⟨by simp, hEd.trans ga⟩
      case rest =>
        obtain ⟨rfl, hEc⟩ := hcut
        have hOc := hO5.ext0 QC.elem hEc
        have hEwc := hE.trans (hE5.trans hEc)
        have huc := mkx QC.mono hu6 hEc
        cases c with
        | false =>
          have hnew : Hid (D = dd (S.take (i + 1))) := hid (by
            rw [hst.out, <- hD.out]
            have := hc'.out
            simp at this
            unfold ddS; rw [if_pos this])
          go_wp2_with fail
          go_roundw
          case rel => exact ⟨i + 1, eo, ec, m, D, by go_num, rfl, by omega, hnew, hDm, hOc, hEwc⟩
          case measure => simp [intOf]; omega
        | true =>
          have hnew : Hid (D ++ [v] = dd (S.take (i + 1))) := hid (by
            rw [hst.out, <- hD.out]
            have := hc'.out
            simp at this
            unfold ddS; rw [if_neg this])
          have rc := r1.ext0 hEc
          have k0 : wc.cell? ⟨gv, 0, none⟩ = some (.bool s5) := rc.cell 0 rfl
          have k1 : wc.cell? ⟨gv, 1, none⟩ = some (.slice a5 n5 c5) := rc.cell 1 rfl
          have k2 : wc.cell? ⟨gv, 2, none⟩ = some (.slice d5 k5 e5) := rc.cell 2 rfl
          have hXc : HX Z wc := hXW2.ext hEwc
          have hbc := hEwc.size
          have hm19 := hDl.out
          go_wp2_with (at_builtin; refine st_append1n (l := D) slRat rfl QC.elem hbc hXc m hDm.out rfl rfl hOc (.agg #[.bool s5, .slice a5 n5 c5, .slice d5 k5 e5]) v rfl huc (by omega) (by omega) ?_; intro eo2 ec2 w9 hO9 hE9 hor)
          have hE10 := hEwc.own hOc (Nat.le_refl _) hE9
          have hm2 : Hid ((D ++ [v]).length = m + 1) := hid (by simp [hDm.out])
          go_roundw
          case rel => exact ⟨i + 1, eo2, ec2, m + 1, D ++ [v], by go_num, rfl, by omega, hnew, hm2, hO9, hE10⟩
          case measure => simp [intOf]; omega
    · obtain rfl : n = i := by omega
      have hDS : Hid (D = dd S) := hid (by rw [hD.out, List.take_of_length_le (by rw [hSl.out]; exact Nat.le_refl _)])
      have hm1 : Hid (1 <= m /\ m <= 19) := hid (by
        have h1 := dd_len S
        rw [<- hDS.out, hDm.out, hSl.out] at h1
        refine ⟨?_, by omega⟩
        rcases Nat.eq_zero_or_pos m with h0 | h0
        · have : D = [] := List.length_eq_zero_iff.1 (by rw [hDm.out, h0])
          have h2 := (hSf.out.1 (S[0]'(by rw [hSl.out]; omega))).2 (List.getElem_mem _)
          rw [<- hDS.out, this] at h2
          simp at h2
        · exact h0)
      have hW2r := hid (hW2.out.trans hE)
      have hDs := hOD.sl QC.elem
      have hDh := hOD.hd
      rw [hDm.out] at hDh
      have hDB : Hid (BR B D) := hid (fun q hq => hSB.out q ((hSf.out.1 q).1 (by rw [<- hDS.out]; exact hq)))
      have hbr := b0.ext0 hW2r.out
      clear hss hho hD hE hOD hXu hSp' hSl hSB hi hlt hXW2
      have hone := qfrom Z wr 1 hXr (by decide) (by decide)
      go_upto_region 14 with (first
        | (go_at_call 73; (with_reducible refine hone.mono ?_); rintro ee w3 ⟨hE3, u3, rfl, hu3⟩; obtain ⟨s4, a4, n4, c4, d4, k4, e4, rfl⟩ := hu3.shape; have bx3 := Bx.new w3 #[.bool false, .slice none 0 0, .slice none 0 0] 38)
        | ((with_reducible show wpList _ _ _ (⟨_, .store 38 _ _, _, _, _, _⟩ :: _) _ _); refine st_storeBox stRat rfl rfl bx3 rfl rfl (one3 _ _ _ _ _ _ _) ?_; intro w4 r1 r2; have hE34 : Ext w3 w4 := ExtX.box ((ExtX.refl w3).alloc _) r2 (Nat.le_refl _)))
      obtain ⟨g10, hg10⟩ : ∃ g, w3.heap.size = g := ⟨_, rfl⟩
      rw [hg10] at r1
      rw [hg10]
      have hEr4 := hE3.trans hE34
      have hW4 := hid (hW2r.out.trans hEr4)
      have hX4 := hXr.ext hEr4
      have hq1 := mkx QC.mono hu3 hE34
      have hDs4 := hDs.mono QC.mono (mk_ext hEr4)
      have b04 := b0.ext0 hW4.out
      have h1b : hq (((1 : Int)) : Rat) <= 68719476736 := by decide +kernel
      have hm0 : 0 < D.length := by rw [hDm.out]; exact hm1.out.1
      obtain ⟨g0, o0, s5, a5, n5, c5, d5, k5, e5, hg0, hy0, hc0, hq0⟩ := hDs4.rat QC.shaped 0 hm0
      have hf0 : Hid (D[0] = fn D 0) := hid (by simp [fn, List.getD_eq_getElem?_getD, hm0])
      have hB0 : Hid (hq (fn D 0) <= B) := hid (by rw [<- hf0.out]; exact hDB.out _ (List.getElem_mem hm0))
      rw [hf0.out] at hq0
      have hB1 : Hid (hq (fn D 0 - (((1 : Int)) : Rat)) <= B + 10) := hid (by
        have h1 := hq_sub (fn D 0) (((1 : Int)) : Rat)
        have h2 : hq (((1 : Int)) : Rat) <= 1 := by decide +kernel
        have h3 := hB0.out
        omega)
      have i1 : ∀ W, (Instr.indexAt 25 (.slice eo m ec) (.int .i64 0)).run Tryz.prog W = .ok (.pointer (some ⟨g0, o0, none⟩)) W := by rw [<- hg0]; exact run_indexAt_adr slRat eo m ec .i64 0 hDh hm1.out.1
      have hEd : Ext w4 w4.drew := (ExtX.refl w4).drew
      have hXd := hX4.ext hEd
      have hwS : w4.drew.cell? ⟨b, 0, none⟩ = some (.int .i64 k) /\ w4.drew.cell? ⟨b, 1, none⟩ = some (.int .i64 t) /\ w4.drew.cell? ⟨g0, o0, none⟩ = some (.bool s5) /\ w4.drew.cell? ⟨g0, o0 + 1, none⟩ = some (.slice a5 n5 c5) /\ w4.drew.cell? ⟨g0, o0 + 2, none⟩ = some (.slice d5 k5 e5) /\ w4.drew.cell? ⟨g10, 0, none⟩ = some (.bool s4) /\ w4.drew.cell? ⟨g10, 1, none⟩ = some (.slice a4 n4 c4) /\ w4.drew.cell? ⟨g10, 2, none⟩ = some (.slice d4 k4 e4) := ⟨hEd.cell (b04.cell 0 rfl), hEd.cell (b04.cell 1 rfl), (hc0.out noY _ hEd rfl).1, (hc0.out noY _ hEd rfl).2.1, (hc0.out noY _ hEd rfl).2.2, hEd.cell (r1.cell 0 rfl), hEd.cell (r1.cell 1 rfl), hEd.cell (r1.cell 2 rfl)⟩
      have hud := hid (mkx RV.mono hu1 (hW4.out.trans hEd))
      have hq1d := hid ((mkx QC.mono hq1 hEd).qv h1b)
      have hq0d := hid ((mkx QC.mono hq0 hEd).qv (Nat.le_trans hB0.out (by omega)))
      (try simp only [Act.put])
      refine wp_region_K 12 (fun w' => w'.cell? ⟨b, 0, none⟩ = some (.int .i64 k) /\ w'.cell? ⟨b, 1, none⟩ = some (.int .i64 t) /\ w'.cell? ⟨g0, o0, none⟩ = some (.bool s5) /\ w'.cell? ⟨g0, o0 + 1, none⟩ = some (.slice a5 n5 c5) /\ w'.cell? ⟨g0, o0 + 2, none⟩ = some (.slice d5 k5 e5) /\ w'.cell? ⟨g10, 0, none⟩ = some (.bool s4) /\ w'.cell? ⟨g10, 1, none⟩ = some (.slice a4 n4 c4) /\ w'.cell? ⟨g10, 2, none⟩ = some (.slice d4 k4 e4)) (by kernel_rfl) (by kernel_rfl) hwS (fun hHeld hOnce => ?_)
      refine kt 0 hOnce ?_
      refine kt 1 hOnce ?_
      refine kt 2 hOnce ?_
      refine kt 3 hOnce ?_
      refine kt 4 hOnce ?_
      refine kt 5 hOnce ?_
      refine kt 6 hOnce ?_
      refine kt 7 hOnce ?_
      refine kt 8 hOnce ?_
      refine chain_start [9, 10] [⟨11, 11, 40, linZ⟩] Z 1 hXd hHeld (fun _ _ h hE => ⟨hE.cell h.1, hE.cell h.2.1, hE.cell h.2.2.1, hE.cell h.2.2.2.1, hE.cell h.2.2.2.2.1, hE.cell h.2.2.2.2.2.1, hE.cell h.2.2.2.2.2.2.1, hE.cell h.2.2.2.2.2.2.2⟩) ?_
      refine good_step (fun M1 w1 ps1 hX1 hZ1 hE1 hF1 hS1 K hK => ?_)
      simp only [setA, Act.put, List.setIfInBounds_toArray, List.set_cons_zero, List.set_cons_succ]
      go_simp
      (with_reducible refine (qsub M1 w1 _ _ _ _ hX1 (upx QV.mono hF1 hq0d.out) (upx QV.mono hF1 hq1d.out)).mono ?_); rintro ee w' ⟨hE', u1, rfl, hv1⟩
      refine hK.out _ _ _ _ _ QC.mono hE' hv1 (by simp only [setA, Act.put, List.setIfInBounds_toArray, List.set_cons_zero, List.set_cons_succ]) ?_
      clear hK K hX1 hZ1 hE1 hF1 hS1
      refine good_step (fun M2 w2 ps2 hX2 hZ2 hE2 hF2 hS2 K hK => ?_)
      simp only [setA, Act.put, List.setIfInBounds_toArray, List.set_cons_zero, List.set_cons_succ]
      go_simp
      (with_reducible refine (hpc.out M2 w2 _ _ _ _ _ hX2 (upx RV.mono hF2.1 hud.out) (upx QV.mono hF2.1 hq0d.out) (hF2.2.qv (Nat.le_trans hB1.out (by omega))) (Nat.le_trans hB0.out (by omega)) hB1.out).mono ?_); rintro ee w' ⟨hE', u2, rfl, hv2⟩
      refine hK.out _ _ _ _ _ LinL.mono hE' hv2 (by simp only [setA, Act.put, List.setIfInBounds_toArray, List.set_cons_zero, List.set_cons_succ]) ?_
      clear hK K hX2 hZ2 hE2 hF2 hS2
      refine chg_end (fun M w5 gs hX5 hZ5 hE5 hF5 hS5 hb5 hn5 => ?_)
      simp only [setA, ptr, Act.put, List.setIfInBounds_toArray, List.set_cons_zero, List.set_cons_succ]
      obtain ⟨ga, hga⟩ : ∃ g, gs 0 = g := ⟨_, rfl⟩
      obtain ⟨x5, m5, l5⟩ := hb5 0 _ rfl
      rw [hga] at x5 m5 l5
      simp only [hga]
      obtain ⟨s6, a6, n6, c6, d6, k6, e6, s7, a7, n7, c7, d7, k7, e7, rfl, qA, qB⟩ := hF5.2
      refine kl 12 (fun K hK => ?_)
      (refine step_storeBox rfl rfl stLin rfl rfl x5 rfl rfl one14 ?_; intro w6 z6 y6)
      refine hK.out _ _ ?_
      clear hK K
      (try simp only [Act.put])
      have hMg : ∀ k, ob (some ⟨ga, 0, none⟩) k = true -> M k = true := fun k hk => by
        have : ga = k := by simpa [ob] using hk
        rw [<- this]; exact m5
      have hl56 := mk_mono (X := M) y6 hMg
      have qA6 := QC.mono _ _ _ _ hl56 qA
      have qB6 := QC.mono _ _ _ _ hl56 qB
      have q06 := QC.mono _ _ _ _ (hF5.1.1.trans hl56) (mkx QC.mono hq0 hEd)
      have hMZ := hid hZ5
      have hE46 : Ext w4 w6 := ExtX.box (hEd.trans hE5) y6 l5
      have z6' : Bx w6 ga #[.bool false, .slice none 0 0, .slice none 0 0, .bool false, .slice none 0 0, .slice none 0 0, .bool false, .bool false, .bool s6, .slice a6 n6 c6, .slice d6 k6 e6, .bool s7, .slice a7 n7 c7, .slice d7 k7 e7] 40 := z6
      have r16 := r1.ext0 hE46
      have hW6 := hid (hW4.out.trans hE46)
      have hX6 := hX4.ext hE46
      have hl4 : w4.heap.size <= ga := l5
      have hDs6 := hid (hDs4.mono QC.mono (mk_ext hE46))
      have hDs4h := hid hDs4
      have r1h := hid r1
      have hc06 := hid (fun w' (h : Ext w6 w') => hc0.out noY w' (hE46.trans h) rfl)
      have hga0 : g0 ≠ ga := fun h => by
        have := cell_lt (hc0.out noY w4 (ExtX.refl _) rfl).1
        have h1 : g0 < w4.heap.size := this
        omega
      clear hv1 hv2 hF5 hS5 hb5 hn5 hE5 hX5 hZ5 x5 y6 z6 qA qB hl56 l5 m5 hga hHeld hOnce hwS hud hq1d hq0d hXd hEd hDs4 hX4 hDs hXr hc0 hone r1 hq0
      have hEd : Ext w6 w6.drew := (ExtX.refl w6).drew
      have z7 := z6'.ext0 hEd
      go_upto_region 15 with fail
      (try simp only [Act.put])
      refine wp_region_K 6 (fun w' => w'.cell? ⟨g0, o0, none⟩ = some (.bool s5) /\ w'.cell? ⟨g0, o0 + 1, none⟩ = some (.slice a5 n5 c5) /\ w'.cell? ⟨g0, o0 + 2, none⟩ = some (.slice d5 k5 e5)) (by kernel_rfl) (by kernel_rfl) (hc06.out _ hEd) (fun hHeld hOnce => ?_)
      refine kt 0 hOnce ?_
      refine kt 1 hOnce ?_
      refine kt 2 hOnce ?_
      refine kt 3 hOnce ?_
      refine ks 4 (fun K hK => ?_)
      (refine step_storeCell rfl rfl tyBoolI rfl rfl rfl rfl z7 (by show 6 < 14; decide) ?_; intro w8 z8 y8)
      refine kcn hK ⟨y8.cellY hHeld.1 (ob_other hga0), y8.cellY hHeld.2.1 (ob_other hga0), y8.cellY hHeld.2.2 (ob_other hga0)⟩ (fun hHeld => ?_)
      clear hK K
      refine kt 5 hOnce ?_
      refine kl 6 (fun K hK => ?_)
      (refine step_storeSub rfl rfl stRat rfl rfl z8 (by show 3 + 3 <= 14; decide) rfl (one3 _ _ _ _ _ _ _) ?_; intro w9 z9 y9)
      refine hK.out _ _ ?_
      clear hK K
      (try simp only [Act.put])
      have hl69 := (mk_ext (X := M) hEd).trans ((mk_mono (X := M) y8 hMg).trans (mk_mono (X := M) y9 hMg))
      have hl9 : Le (mk M w6) (mk Z w9) := hl69.trans (mk_sub fun k _ hk => hMZ.out k hk)
      have hE49 : Ext w4 w9 := ExtX.box (ExtX.box (hE46.trans hEd) y8 hl4) y9 hl4
      have z9' : Bx w9 ga #[.bool false, .slice none 0 0, .slice none 0 0, .bool s5, .slice a5 n5 c5, .slice d5 k5 e5, .bool true, .bool false, .bool s6, .slice a6 n6 c6, .slice d6 k6 e6, .bool s7, .slice a7 n7 c7, .slice d7 k7 e7] 40 := z9
      have hp0 : LinR (mk Z w9) (.agg #[.bool false, .slice none 0 0, .slice none 0 0, .bool s5, .slice a5 n5 c5, .slice d5 k5 e5, .bool true, .bool false, .bool s6, .slice a6 n6 c6, .slice d6 k6 e6, .bool s7, .slice a7 n7 c7, .slice d7 k7 e7]) (pcE f D 0) := by
        have hD0 : 0 ≠ D.length := by omega
        have e1 : (pcE f D 0).lo = none := rfl
        have e2 : (pcE f D 0).hi = some (fn D 0) := by simp [pcE, hiE, hD0]
        have e3 : (pcE f D 0).a = lineA f (fn D 0) (fn D 0 - (((1 : Int)) : Rat)) := by simp [pcE, ptP, ptQ]
        have e4 : (pcE f D 0).b = lineB f (fn D 0) (fn D 0 - (((1 : Int)) : Rat)) := by simp [pcE, ptP, ptQ]
        refine LinR.of ?_ ?_ ?_ ?_ (by rw [e1]; rfl) (by rw [e2]; rfl)
        · rw [e1]; exact QC.zero _
        · rw [e2]; exact QC.mono _ _ _ _ hl9 q06
        · rw [e3]; exact QC.mono _ _ _ _ hl9 qA6
        · rw [e4]; exact QC.mono _ _ _ _ hl9 qB6
      have hW9 := hid (hW4.out.trans hE49)
      have hX9 : HX Z w9 := hXW.ext hW9.out
      have hbase9 := hE49.size
      have hDs9 := hid (hDs4h.out.mono QC.mono (mk_ext hE49))
      have hu9 := hid (mkx RV.mono hu1 hW9.out)
      have hq19 := hid (mkx QC.mono hq1 hE49)
      have r19 := r1h.out.ext0 hE49
      have b09 := b0.ext0 hW9.out
      clear hl69 hl9 y8 y9 z8 z7 z6' qA6 qB6 q06 hMg hHeld hOnce hEd hc06 hDs6 r16 hW6 hX6 b04 hbase9 hE49 hE46 hl4 hga0 i1 hq1 hEr4 hW4 hE34 bx3 r2 hE3 hf0 hy0 hg0 hu3 hMZ hW2r hE1 hE2 hXW hW2 hB1 hB0 hbr
      go_upto_region 18 with (first | ((with_reducible show wpList _ _ _ (⟨_, .load 40 _, _, _, _, _⟩ :: _) _ _); refine st_loadBox stLin rfl z9' rfl ?_))
      clear z9'
      have hlit := lin_lit (e := 40) hX9 hp0
      have hEl : Ext w9 (w9.alloc (.cells #[.bool false, .slice none 0 0, .slice none 0 0, .bool s5, .slice a5 n5 c5, .slice d5 k5 e5, .bool true, .bool false, .bool s6, .slice a6 n6 c6, .slice d6 k6 e6, .bool s7, .slice a7 n7 c7, .slice d7 k7 e7] 40)) := (ExtX.refl w9).alloc _
      go_loopw [12, 13] (fun o c wr => ∃ (i : Nat) (bo : Option Addr) (bc : Nat), c = .int .i64 i /\ o = .slice bo i bc /\ 1 <= i /\ i <= m /\ OL LinR 14 Z w9.heap.size 40 wr bo bc (rawP f D i) /\ Ext w9 wr) (fun _ c _ => m - (intOf c).toNat)
      case atStart => exact ⟨1, _, 1, rfl, rfl, Nat.le_refl _, hm1.out.1, hlit, hEl⟩
      case round =>
        obtain ⟨i, bo, bc, rfl, rfl, hi1, him, hOB, hEa⟩ := hrel
        clear hlit hEl hp0
        have hXa := hX9.ext hEa
        have hXb : HX (un Z bo) wr := hOB.unX hXa
        have hm19 := hm1.out.2
        by_cases hlt : i < m
        · have hi2 : i < D.length := by rw [hDm.out]; omega
          have hi1' : i - 1 < D.length := by omega
          have hDr := hDs9.out.old QC.mono hEa (fun j hj => hOB.ob_lt hj)
          have hur := hid (old_un RV.mono hu9.out hEa (fun j hj => hOB.ob_lt hj))
          obtain ⟨g1, o1, s1, a1, n1, c1, d1, k1, e1, hg1, hy1, hc1, hq1⟩ := hDr.rat QC.shaped (i - 1) hi1'
          obtain ⟨g2, o2, s2, a2, n2, c2, d2, k2, e2, hg2, hy2, hc2, hq2⟩ := hDr.rat QC.shaped i hi2
          have hf1 : Hid (D[i - 1] = fn D (i - 1)) := hid (by simp [fn, List.getD_eq_getElem?_getD, hi1'])
          have hf2 : Hid (D[i] = fn D i) := hid (by simp [fn, List.getD_eq_getElem?_getD, hi2])
          have hB1 : Hid (hq (fn D (i - 1)) <= B) := hid (by rw [<- hf1.out]; exact hDB.out _ (List.getElem_mem hi1'))
          have hB2 : Hid (hq (fn D i) <= B) := hid (by rw [<- hf2.out]; exact hDB.out _ (List.getElem_mem hi2))
          rw [hf1.out] at hq1
          rw [hf2.out] at hq2
          have ew : IntKind.i64.wrap ((i : Int) - 1) = (i : Int) - 1 := IntWalk.i64_in _ (by omega)
          have j1 : ∀ W, (Instr.indexAt 25 (.slice eo m ec) (.int .i64 ((i : Int) - 1))).run Tryz.prog W = .ok (.pointer (some ⟨g1, o1, none⟩)) W := by
            rw [<- hg1, show ((i : Int) - 1) = ((i - 1 : Nat) : Int) by omega]; exact run_indexAt_adr slRat eo m ec .i64 (i - 1) hDh (by omega)
          have j2 : ∀ W, (Instr.indexAt 25 (.slice eo m ec) (.int .i64 i)).run Tryz.prog W = .ok (.pointer (some ⟨g2, o2, none⟩)) W := by
            rw [<- hg2]; exact run_indexAt_adr slRat eo m ec .i64 i hDh hlt
          have ba := b09.ext0 hEa
          have hEd : Ext wr wr.drew := (ExtX.refl wr).drew
          have hcs : Hid (∀ w', Ext wr w' -> w'.cell? ⟨g1, o1, none⟩ = some (.bool s1) /\ w'.cell? ⟨g1, o1 + 1, none⟩ = some (.slice a1 n1 c1) /\ w'.cell? ⟨g1, o1 + 2, none⟩ = some (.slice d1 k1 e1) /\ w'.cell? ⟨g2, o2, none⟩ = some (.bool s2) /\ w'.cell? ⟨g2, o2 + 1, none⟩ = some (.slice a2 n2 c2) /\ w'.cell? ⟨g2, o2 + 2, none⟩ = some (.slice d2 k2 e2)) := hid fun w' h =>
            ⟨(hc1.out noY _ h rfl).1, (hc1.out noY _ h rfl).2.1, (hc1.out noY _ h rfl).2.2, (hc2.out noY _ h rfl).1, (hc2.out noY _ h rfl).2.1, (hc2.out noY _ h rfl).2.2⟩
          have hwS : wr.drew.cell? ⟨b, 0, none⟩ = some (.int .i64 k) /\ wr.drew.cell? ⟨b, 1, none⟩ = some (.int .i64 t) /\ wr.drew.cell? ⟨g1, o1, none⟩ = some (.bool s1) /\ wr.drew.cell? ⟨g1, o1 + 1, none⟩ = some (.slice a1 n1 c1) /\ wr.drew.cell? ⟨g1, o1 + 2, none⟩ = some (.slice d1 k1 e1) /\ wr.drew.cell? ⟨g2, o2, none⟩ = some (.bool s2) /\ wr.drew.cell? ⟨g2, o2 + 1, none⟩ = some (.slice a2 n2 c2) /\ wr.drew.cell? ⟨g2, o2 + 2, none⟩ = some (.slice d2 k2 e2) := ⟨hEd.cell (ba.cell 0 rfl), hEd.cell (ba.cell 1 rfl), hcs.out _ hEd⟩
          have hg1l : g1 < wr.heap.size := cell_lt (hc1.out noY wr (ExtX.refl _) rfl).1
          have hg2l : g2 < wr.heap.size := cell_lt (hc2.out noY wr (ExtX.refl _) rfl).1
          have hXd := hXb.ext hEd
          have hud := hid (mkx RV.mono hur.out hEd)
          have hq1d := hid ((mkx QC.mono hq1 hEd).qv (Nat.le_trans hB1.out (by omega)))
          have hq2d := hid ((mkx QC.mono hq2 hEd).qv (Nat.le_trans hB2.out (by omega)))
          go_upto_region 20 with fail
          (try simp only [Act.put])
          refine wp_region_K 13 (fun w' => w'.cell? ⟨b, 0, none⟩ = some (.int .i64 k) /\ w'.cell? ⟨b, 1, none⟩ = some (.int .i64 t) /\ w'.cell? ⟨g1, o1, none⟩ = some (.bool s1) /\ w'.cell? ⟨g1, o1 + 1, none⟩ = some (.slice a1 n1 c1) /\ w'.cell? ⟨g1, o1 + 2, none⟩ = some (.slice d1 k1 e1) /\ w'.cell? ⟨g2, o2, none⟩ = some (.bool s2) /\ w'.cell? ⟨g2, o2 + 1, none⟩ = some (.slice a2 n2 c2) /\ w'.cell? ⟨g2, o2 + 2, none⟩ = some (.slice d2 k2 e2)) (by kernel_rfl) (by kernel_rfl) hwS (fun hHeld hOnce => ?_)
          refine kt 0 hOnce ?_
          refine kt 1 hOnce ?_
          refine kt 2 hOnce ?_
          refine kt 3 hOnce ?_
          refine kt 4 hOnce ?_
          refine kt 5 hOnce ?_
          refine kt 6 hOnce ?_
          refine kt 7 hOnce ?_
          refine kt 8 hOnce ?_
          refine kt 9 hOnce ?_
          refine kt 10 hOnce ?_
          refine chain_start [11] [⟨12, 14, 40, linZ⟩] (un Z bo) 1 hXd hHeld (fun _ _ h hE => ⟨hE.cell h.1, hE.cell h.2.1, hE.cell h.2.2.1, hE.cell h.2.2.2.1, hE.cell h.2.2.2.2.1, hE.cell h.2.2.2.2.2.1, hE.cell h.2.2.2.2.2.2.1, hE.cell h.2.2.2.2.2.2.2⟩) ?_
          refine good_step (fun M1 w1 ps1 hX1 hZ1 hE1 hF1 hS1 K hK => ?_)
          simp only [setA, Act.put, List.setIfInBounds_toArray, List.set_cons_zero, List.set_cons_succ]
          go_simp
          (with_reducible refine (hpc.out M1 w1 _ _ _ _ _ hX1 (upx RV.mono hF1 hud.out) (upx QV.mono hF1 hq1d.out) (upx QV.mono hF1 hq2d.out) (Nat.le_trans hB1.out (by omega)) (Nat.le_trans hB2.out (by omega))).mono ?_); rintro ee w' ⟨hE', u2, rfl, hv2⟩
          refine hK.out _ _ _ _ _ LinL.mono hE' hv2 (by simp only [setA, Act.put, List.setIfInBounds_toArray, List.set_cons_zero, List.set_cons_succ]) ?_
          clear hK K hX1 hZ1 hE1 hF1 hS1
          refine chg_end (fun M w5 gs hX5 hZ5 hE5 hF5 hS5 hb5 hn5 => ?_)
          simp only [setA, ptr, Act.put, List.setIfInBounds_toArray, List.set_cons_zero, List.set_cons_succ]
          obtain ⟨ga, hga⟩ : ∃ g, gs 0 = g := ⟨_, rfl⟩
          obtain ⟨x5, m5, l5⟩ := hb5 0 _ rfl
          rw [hga] at x5 m5 l5
          simp only [hga]
          obtain ⟨s6, a6, n6, c6, d6, k6, e6, s7, a7, n7, c7, d7, k7, e7, rfl, qA, qB⟩ := hF5.2
          refine kl 13 (fun K hK => ?_)
          (refine step_storeBox rfl rfl stLin rfl rfl x5 rfl rfl one14 ?_; intro w6 z6 y6)
          refine hK.out _ _ ?_
          clear hK K
          (try simp only [Act.put])
          have hMg : ∀ k, ob (some ⟨ga, 0, none⟩) k = true -> M k = true := fun k hk => by
            have : ga = k := by simpa [ob] using hk
            rw [<- this]; exact m5
          have hMZ := hid hZ5
          have hEr6 : Ext wr w6 := ExtX.box (hEd.trans hE5) y6 l5
          have z6' : Bx w6 ga #[.bool false, .slice none 0 0, .slice none 0 0, .bool false, .slice none 0 0, .slice none 0 0, .bool false, .bool false, .bool s6, .slice a6 n6 c6, .slice d6 k6 e6, .bool s7, .slice a7 n7 c7, .slice d7 k7 e7] 40 := z6
          have hl56 := hid ((mk_ext (X := M) (ExtX.refl w5)).trans (mk_mono (X := M) y6 hMg))
          have hF1 := hid (hF5.1.trans hl56.out)
          have qA6 := QC.mono _ _ _ _ hl56.out qA
          have qB6 := QC.mono _ _ _ _ hl56.out qB
          have hEd6 : Ext w6 w6.drew := (ExtX.refl w6).drew
          have z7 := z6'.ext0 hEd6
          have hga1 : g1 ≠ ga := by have h1 : wr.heap.size <= ga := l5; omega
          have hga2 : g2 ≠ ga := by have h1 : wr.heap.size <= ga := l5; omega
          have hgaL : wr.heap.size <= ga := l5
          have hcs2 := hcs.out _ (hEr6.trans hEd6)
          clear hv2 hF5 hS5 hb5 hn5 hE5 hX5 hZ5 x5 y6 z6 z6' qA qB l5 m5 hga hHeld hOnce hwS hud hq1d hq2d hXd hEd
          go_upto_region 21 with fail
          (try simp only [Act.put])
          refine wp_region_K 12 (fun w' => w'.cell? ⟨g1, o1, none⟩ = some (.bool s1) /\ w'.cell? ⟨g1, o1 + 1, none⟩ = some (.slice a1 n1 c1) /\ w'.cell? ⟨g1, o1 + 2, none⟩ = some (.slice d1 k1 e1) /\ w'.cell? ⟨g2, o2, none⟩ = some (.bool s2) /\ w'.cell? ⟨g2, o2 + 1, none⟩ = some (.slice a2 n2 c2) /\ w'.cell? ⟨g2, o2 + 2, none⟩ = some (.slice d2 k2 e2)) (by kernel_rfl) (by kernel_rfl) hcs2 (fun hHeld hOnce => ?_)
          refine kt 0 hOnce ?_
          refine kt 1 hOnce ?_
          refine kt 2 hOnce ?_
          refine kt 3 hOnce ?_
          refine kt 4 hOnce ?_
          refine kt 5 hOnce ?_
          refine kt 6 hOnce ?_
          refine kt 7 hOnce ?_
          refine kt 8 hOnce ?_
          refine kt 9 hOnce ?_
          refine ks 10 (fun K hK => ?_)
          (refine step_storeSub rfl rfl stRat rfl rfl z7 (by show 0 + 3 <= 14; decide) rfl (one3 _ _ _ _ _ _ _) ?_; intro w8 z8 y8)
          refine kcn hK ⟨y8.cellY hHeld.1 (ob_other hga1), y8.cellY hHeld.2.1 (ob_other hga1), y8.cellY hHeld.2.2.1 (ob_other hga1), y8.cellY hHeld.2.2.2.1 (ob_other hga2), y8.cellY hHeld.2.2.2.2.1 (ob_other hga2), y8.cellY hHeld.2.2.2.2.2 (ob_other hga2)⟩ (fun hHeld => ?_)
          clear hK K
          refine kt 11 hOnce ?_
          refine kl 12 (fun K hK => ?_)
          (refine step_storeSub rfl rfl stRat rfl rfl z8 (by show 3 + 3 <= 14; decide) rfl (one3 _ _ _ _ _ _ _) ?_; intro w10 z10 y10)
          refine hK.out _ _ ?_
          clear hK K
          (try simp only [Act.put])
          have hl610 := (mk_ext (X := M) hEd6).trans ((mk_mono (X := M) y8 hMg).trans (mk_mono (X := M) y10 hMg))
          have hl10 : Le (mk M w6) (mk (un Z bo) w10) := hl610.trans (mk_sub fun k _ hk => hMZ.out k hk)
          have hEr10 : Ext wr w10 := ExtX.box (ExtX.box (hEr6.trans hEd6) y8 hgaL) y10 hgaL
          have z10' : Bx w10 ga #[.bool s1, .slice a1 n1 c1, .slice d1 k1 e1, .bool s2, .slice a2 n2 c2, .slice d2 k2 e2, .bool false, .bool false, .bool s6, .slice a6 n6 c6, .slice d6 k6 e6, .bool s7, .slice a7 n7 c7, .slice d7 k7 e7] 40 := z10
          have hp1 : LinR (mk (un Z bo) w10) (.agg #[.bool s1, .slice a1 n1 c1, .slice d1 k1 e1, .bool s2, .slice a2 n2 c2, .slice d2 k2 e2, .bool false, .bool false, .bool s6, .slice a6 n6 c6, .slice d6 k6 e6, .bool s7, .slice a7 n7 c7, .slice d7 k7 e7]) (pcE f D i) := by
            have h0 : i ≠ 0 := by omega
            have h1 : i ≠ D.length := by omega
            have x1 : (pcE f D i).lo = some (fn D (i - 1)) := by simp [pcE, loE, h0]
            have x2 : (pcE f D i).hi = some (fn D i) := by simp [pcE, hiE, h1]
            have x3 : (pcE f D i).a = lineA f (fn D (i - 1)) (fn D i) := by simp [pcE, ptP, ptQ, h0, h1]
            have x4 : (pcE f D i).b = lineB f (fn D (i - 1)) (fn D i) := by simp [pcE, ptP, ptQ, h0, h1]
            refine LinR.of ?_ ?_ ?_ ?_ (by rw [x1]; rfl) (by rw [x2]; rfl)
            · rw [x1]; exact QC.mono _ _ _ _ (mk_ext hEr10) hq1
            · rw [x2]; exact QC.mono _ _ _ _ (mk_ext hEr10) hq2
            · rw [x3]; exact QC.mono _ _ _ _ hl10 qA6
            · rw [x4]; exact QC.mono _ _ _ _ hl10 qB6
          have hX10 := hXa.ext hEr10
          have hO10 := hOB.ext0 LinR.elem hEr10
          have hb10 := (hEa.trans hEr10).size
          clear hl610 hl10 y8 y10 z8 z10 z7 qA6 qB6 hMg hHeld hOnce hEd6 hcs2 hl56 hF1
          go_wp2_with (first
            | ((with_reducible show wpList _ _ _ (⟨_, .load 40 _, _, _, _, _⟩ :: _) _ _); refine st_loadBox stLin rfl z10' rfl ?_)
            | (at_builtin; refine st_append1n (l := rawP f D i) slLin rfl LinR.elem hb10 hX10 i (rawP_len _ _ _) rfl rfl hO10 (.agg #[.bool s1, .slice a1 n1 c1, .slice d1 k1 e1, .bool s2, .slice a2 n2 c2, .slice d2 k2 e2, .bool false, .bool false, .bool s6, .slice a6 n6 c6, .slice d6 k6 e6, .bool s7, .slice a7 n7 c7, .slice d7 k7 e7]) (pcE f D i) rfl hp1 (by omega) (by omega) ?_; intro bo2 bc2 w11 hO11 hE11 hor))
          have hE12 := (hEa.trans hEr10).own hO10 (Nat.le_refl _) hE11
          rw [<- rawP_more] at hO11
          go_roundw
          case rel => exact ⟨i + 1, bo2, bc2, by go_num, rfl, by omega, by omega, hO11, hE12⟩
          case measure => simp [intOf]; omega
        · obtain rfl : m = i := by omega
          have hi1' : m - 1 < D.length := by rw [hDm.out]; omega
          have hDr := hDs9.out.old QC.mono hEa (fun j hj => hOB.ob_lt hj)
          have hur := hid (old_un RV.mono hu9.out hEa (fun j hj => hOB.ob_lt hj))
          have hq1r := hid (old_un QC.mono hq19 hEa (fun j hj => hOB.ob_lt hj))
          obtain ⟨g1, o1, s1, a1, n1, c1, d1, kk, e1, hg1, hy1, hc1, hq1⟩ := hDr.rat QC.shaped (m - 1) hi1'
          have hf1 : Hid (D[m - 1] = fn D (m - 1)) := hid (by simp [fn, List.getD_eq_getElem?_getD, hi1'])
          have hB1 : Hid (hq (fn D (m - 1)) <= B) := hid (by rw [<- hf1.out]; exact hDB.out _ (List.getElem_mem hi1'))
          have hB2 : Hid (hq (fn D (m - 1) + (((1 : Int)) : Rat)) <= B + 10) := hid (by
            have h1 := hq_add (fn D (m - 1)) (((1 : Int)) : Rat)
            have h2 : hq (((1 : Int)) : Rat) <= 1 := by decide +kernel
            have h3 := hB1.out
            omega)
          rw [hf1.out] at hq1
          have ew : IntKind.i64.wrap ((m : Int) - 1) = (m : Int) - 1 := IntWalk.i64_in _ (by omega)
          have j1 : ∀ W, (Instr.indexAt 25 (.slice eo m ec) (.int .i64 ((m : Int) - 1))).run Tryz.prog W = .ok (.pointer (some ⟨g1, o1, none⟩)) W := by
            rw [<- hg1, show ((m : Int) - 1) = ((m - 1 : Nat) : Int) by omega]; exact run_indexAt_adr slRat eo m ec .i64 (m - 1) hDh (by omega)
          have k0 : wr.cell? ⟨g1, o1, none⟩ = some (.bool s1) := (hc1.out noY _ (ExtX.refl _) rfl).1
          have k1 : wr.cell? ⟨g1, o1 + 1, none⟩ = some (.slice a1 n1 c1) := (hc1.out noY _ (ExtX.refl _) rfl).2.1
          have k2 : wr.cell? ⟨g1, o1 + 2, none⟩ = some (.slice d1 kk e1) := (hc1.out noY _ (ExtX.refl _) rfl).2.2
          have bx := Bx.new wr #[.bool false, .slice none 0 0, .slice none 0 0] 38
          go_upto_region 24 with (first | ((with_reducible show wpList _ _ _ (⟨_, .store 38 _ _, _, _, _, _⟩ :: _) _ _); refine st_storeBox stRat rfl rfl bx rfl rfl (one3 _ _ _ _ _ _ _) ?_; intro w4 r1 r2; have hE4 : Ext wr w4 := ExtX.box ((ExtX.refl wr).alloc _) r2 (Nat.le_refl _)))
          obtain ⟨g15, hg15⟩ : ∃ g, wr.heap.size = g := ⟨_, rfl⟩
          rw [hg15] at r1
          rw [hg15]
          have hEd : Ext w4 w4.drew := (ExtX.refl w4).drew
          have b04 := b09.ext0 (hEa.trans (hE4.trans hEd))
          have r19' := r19.ext0 (hEa.trans (hE4.trans hEd))
          have rd1 := r1.ext0 hEd
          have hwS : w4.drew.cell? ⟨b, 0, none⟩ = some (.int .i64 k) /\ w4.drew.cell? ⟨b, 1, none⟩ = some (.int .i64 t) /\ w4.drew.cell? ⟨g15, 0, none⟩ = some (.bool s1) /\ w4.drew.cell? ⟨g15, 1, none⟩ = some (.slice a1 n1 c1) /\ w4.drew.cell? ⟨g15, 2, none⟩ = some (.slice d1 kk e1) /\ w4.drew.cell? ⟨g10, 0, none⟩ = some (.bool s4) /\ w4.drew.cell? ⟨g10, 1, none⟩ = some (.slice a4 n4 c4) /\ w4.drew.cell? ⟨g10, 2, none⟩ = some (.slice d4 k4 e4) := ⟨b04.cell 0 rfl, b04.cell 1 rfl, rd1.cell 0 rfl, rd1.cell 1 rfl, rd1.cell 2 rfl, r19'.cell 0 rfl, r19'.cell 1 rfl, r19'.cell 2 rfl⟩
          have hX4 := (HX.ext (w := wr) hXb hE4)
          have hXd := hX4.ext hEd
          have hud := hid (mkx RV.mono hur.out (hE4.trans hEd))
          have hq1d := hid ((mkx QC.mono hq1r.out (hE4.trans hEd)).qv h1b)
          have hq0d := hid ((mkx QC.mono hq1 (hE4.trans hEd)).qv (Nat.le_trans hB1.out (by omega)))
          (try simp only [Act.put])
          refine wp_region_K 8 (fun w' => w'.cell? ⟨b, 0, none⟩ = some (.int .i64 k) /\ w'.cell? ⟨b, 1, none⟩ = some (.int .i64 t) /\ w'.cell? ⟨g15, 0, none⟩ = some (.bool s1) /\ w'.cell? ⟨g15, 1, none⟩ = some (.slice a1 n1 c1) /\ w'.cell? ⟨g15, 2, none⟩ = some (.slice d1 kk e1) /\ w'.cell? ⟨g10, 0, none⟩ = some (.bool s4) /\ w'.cell? ⟨g10, 1, none⟩ = some (.slice a4 n4 c4) /\ w'.cell? ⟨g10, 2, none⟩ = some (.slice d4 k4 e4)) (by kernel_rfl) (by kernel_rfl) hwS (fun hHeld hOnce => ?_)
          refine kt 0 hOnce ?_
          refine kt 1 hOnce ?_
          refine kt 2 hOnce ?_
          refine kt 3 hOnce ?_
          refine kt 4 hOnce ?_
          refine chain_start [5, 6] [⟨7, 16, 40, linZ⟩] (un Z bo) 1 hXd hHeld (fun _ _ h hE => ⟨hE.cell h.1, hE.cell h.2.1, hE.cell h.2.2.1, hE.cell h.2.2.2.1, hE.cell h.2.2.2.2.1, hE.cell h.2.2.2.2.2.1, hE.cell h.2.2.2.2.2.2.1, hE.cell h.2.2.2.2.2.2.2⟩) ?_
          refine good_step (fun M1 w1 ps1 hX1 hZ1 hE1 hF1 hS1 K hK => ?_)
          simp only [setA, Act.put, List.setIfInBounds_toArray, List.set_cons_zero, List.set_cons_succ]
          go_simp
          (with_reducible refine (qadd M1 w1 _ _ _ _ hX1 (upx QV.mono hF1 hq0d.out) (upx QV.mono hF1 hq1d.out)).mono ?_); rintro ee w' ⟨hE', u1, rfl, hv1⟩
          refine hK.out _ _ _ _ _ QC.mono hE' hv1 (by simp only [setA, Act.put, List.setIfInBounds_toArray, List.set_cons_zero, List.set_cons_succ]) ?_
          clear hK K hX1 hZ1 hE1 hF1 hS1
          refine good_step (fun M2 w2 ps2 hX2 hZ2 hE2 hF2 hS2 K hK => ?_)
          simp only [setA, Act.put, List.setIfInBounds_toArray, List.set_cons_zero, List.set_cons_succ]
          go_simp
          (with_reducible refine (hpc.out M2 w2 _ _ _ _ _ hX2 (upx RV.mono hF2.1 hud.out) (upx QV.mono hF2.1 hq0d.out) (hF2.2.qv (Nat.le_trans hB2.out (by omega))) (Nat.le_trans hB1.out (by omega)) hB2.out).mono ?_); rintro ee w' ⟨hE', u2, rfl, hv2⟩
          refine hK.out _ _ _ _ _ LinL.mono hE' hv2 (by simp only [setA, Act.put, List.setIfInBounds_toArray, List.set_cons_zero, List.set_cons_succ]) ?_
          clear hK K hX2 hZ2 hE2 hF2 hS2
          refine chg_end (fun M w5 gs hX5 hZ5 hE5 hF5 hS5 hb5 hn5 => ?_)
          simp only [setA, ptr, Act.put, List.setIfInBounds_toArray, List.set_cons_zero, List.set_cons_succ]
          obtain ⟨ga, hga⟩ : ∃ g, gs 0 = g := ⟨_, rfl⟩
          obtain ⟨x5, m5, l5⟩ := hb5 0 _ rfl
          rw [hga] at x5 m5 l5
          simp only [hga]
          obtain ⟨s6, a6, n6, c6, d6, k6, e6, s7, a7, n7, c7, d7, k7, e7, rfl, qA, qB⟩ := hF5.2
          refine kl 8 (fun K hK => ?_)
          (refine step_storeBox rfl rfl stLin rfl rfl x5 rfl rfl one14 ?_; intro w6 z6 y6)
          refine hK.out _ _ ?_
          clear hK K
          (try simp only [Act.put])
          have hMg : ∀ k, ob (some ⟨ga, 0, none⟩) k = true -> M k = true := fun k hk => by
            have : ga = k := by simpa [ob] using hk
            rw [<- this]; exact m5
          have hMZ := hid hZ5
          have hE46 : Ext w4 w6 := ExtX.box (hEd.trans hE5) y6 l5
          have hEr6 : Ext wr w6 := hE4.trans hE46
          have hgaL : wr.heap.size <= ga := Nat.le_trans hE4.size l5
          have hgag : g15 ≠ ga := by
            have h1 : w4.heap.size <= ga := l5
            have h2 := r1.lt
            omega
          have z6' : Bx w6 ga #[.bool false, .slice none 0 0, .slice none 0 0, .bool false, .slice none 0 0, .slice none 0 0, .bool false, .bool false, .bool s6, .slice a6 n6 c6, .slice d6 k6 e6, .bool s7, .slice a7 n7 c7, .slice d7 k7 e7] 40 := z6
          have hl56 := hid ((mk_ext (X := M) (ExtX.refl w5)).trans (mk_mono (X := M) y6 hMg))
          have qA6 := QC.mono _ _ _ _ hl56.out qA
          have qB6 := QC.mono _ _ _ _ hl56.out qB
          have r6 := r1.ext0 hE46
          have k3 : w6.cell? ⟨g15, 0, none⟩ = some (.bool s1) := r6.cell 0 rfl
          have k4' : w6.cell? ⟨g15, 1, none⟩ = some (.slice a1 n1 c1) := r6.cell 1 rfl
          have k5' : w6.cell? ⟨g15, 2, none⟩ = some (.slice d1 kk e1) := r6.cell 2 rfl
          clear hv1 hv2 hF5 hS5 hb5 hn5 hE5 hX5 hZ5 x5 y6 z6 qA qB l5 m5 hga hHeld hOnce hwS hud hq1d hq0d hXd hEd hX4 rd1 r1 r2 k0 k1 k2 b04 r19' bx
          go_upto_region 26 with (first
            | ((with_reducible show wpList _ _ _ (⟨_, .store 38 _ _, _, _, _, _⟩ :: _) _ _); refine st_storeSub2 stRat rfl rfl z6' (by show 0 + 3 <= 14; decide) rfl (one3 _ _ _ _ _ _ _) ?_; intro w8 z8 y8)
            | ((with_reducible show wpList _ _ _ (⟨_, .store 4 _ _, _, _, _, _⟩ :: _) _ _); refine st_storeCell tyBoolI rfl rfl rfl rfl z8 (by show 7 < 14; decide) ?_; intro w10 z10 y10))
          have hl610 := (mk_mono (X := M) y8 hMg).trans (mk_mono (X := M) y10 hMg)
          have hl10 : Le (mk M w6) (mk (un Z bo) w10) := hl610.trans (mk_sub fun k _ hk => hMZ.out k hk)
          have hEr10 : Ext wr w10 := ExtX.box (ExtX.box hEr6 y8 hgaL) y10 hgaL
          have z10' : Bx w10 ga #[.bool s1, .slice a1 n1 c1, .slice d1 kk e1, .bool false, .slice none 0 0, .slice none 0 0, .bool false, .bool true, .bool s6, .slice a6 n6 c6, .slice d6 k6 e6, .bool s7, .slice a7 n7 c7, .slice d7 k7 e7] 40 := z10
          have hp1 : LinR (mk (un Z bo) w10) (.agg #[.bool s1, .slice a1 n1 c1, .slice d1 kk e1, .bool false, .slice none 0 0, .slice none 0 0, .bool false, .bool true, .bool s6, .slice a6 n6 c6, .slice d6 k6 e6, .bool s7, .slice a7 n7 c7, .slice d7 k7 e7]) (pcE f D m) := by
            have h0 : m ≠ 0 := by omega
            have h1 : m = D.length := hDm.out.symm
            have x1 : (pcE f D m).lo = some (fn D (m - 1)) := by simp [pcE, loE, h0]
            have x2 : (pcE f D m).hi = none := by simp [pcE, hiE, <- h1]
            have x3 : (pcE f D m).a = lineA f (fn D (m - 1)) (fn D (m - 1) + (((1 : Int)) : Rat)) := by simp [pcE, ptP, ptQ, h0, <- h1]
            have x4 : (pcE f D m).b = lineB f (fn D (m - 1)) (fn D (m - 1) + (((1 : Int)) : Rat)) := by simp [pcE, ptP, ptQ, h0, <- h1]
            refine LinR.of ?_ ?_ ?_ ?_ (by rw [x1]; rfl) (by rw [x2]; rfl)
            · rw [x1]; exact QC.mono _ _ _ _ (mk_ext hEr10) hq1
            · rw [x2]; exact QC.zero _
            · rw [x3]; exact QC.mono _ _ _ _ hl10 qA6
            · rw [x4]; exact QC.mono _ _ _ _ hl10 qB6
          have hX10 := hXa.ext hEr10
          have hO10 := hOB.ext0 LinR.elem hEr10
          have hb10 := (hEa.trans hEr10).size
          clear hl610 hl10 y8 y10 z8 z10 qA6 qB6 hMg hl56 k3 k4' k5' j1 hgag
          go_upto_region 29 with (first
            | ((with_reducible show wpList _ _ _ (⟨_, .load 40 _, _, _, _, _⟩ :: _) _ _); refine st_loadBox stLin rfl z10' rfl ?_)
            | (at_builtin; refine st_append1n (l := rawP f D m) slLin rfl LinR.elem hb10 hX10 m (rawP_len _ _ _) rfl rfl hO10 (.agg #[.bool s1, .slice a1 n1 c1, .slice d1 kk e1, .bool false, .slice none 0 0, .slice none 0 0, .bool false, .bool true, .bool s6, .slice a6 n6 c6, .slice d6 k6 e6, .bool s7, .slice a7 n7 c7, .slice d7 k7 e7]) (pcE f D m) rfl hp1 (by omega) (by omega) ?_; intro bo2 bc2 w11 hO11 hE11 hor))
          have hE12 := hid ((hEa.trans hEr10).own hO10 (Nat.le_refl _) hE11)
          rw [<- rawP_more] at hO11
          have hal := hO11.sl LinR.elem
          have hah := hO11.hd
          rw [rawP_len] at hah
          have hX11 := hX9.ext hE12.out
          have hgd := hid (fun i => pcE_good hfB.out hDB.out hBB i)
          clear hp1 z10' hO10 hX10 hb10 hEr10 hO11 hE11 hor hq1 hB2 hB1 hf1 hc1 hg1 hy1 hDr hur hq1r hXb hOB hEa hi1' ew hpc hu9 hDs9 hDh r19 b09
          go_loopw [17, 131] (fun o c wr => ∃ (i q : Nat) (oo : Option Addr) (oc : Nat) (T : List Pc), c = .int .i64 i /\ o = .slice oo q oc /\ i <= m + 1 /\ Hid (T = mrgP f D i) /\ Hid (T.length = q) /\ OL LinR 14 Z w11.heap.size 40 wr oo oc T /\ Ext w11 wr) (fun _ c _ => m + 1 - (intOf c).toNat)
          case atStart => exact ⟨0, 0, none, 0, [], rfl, rfl, Nat.zero_le _, hid rfl, hid rfl, OL.nil _ _ _ _ _ _, ExtX.refl _⟩
          case round =>
            obtain ⟨i, q, oo, oc, T, rfl, rfl, hi, hT, hTq, hOT, hEt⟩ := hrel
            have hXt := hX11.ext hEt
            have hXu : HX (un Z oo) wr := hOT.unX hXt
            have hq19' : Hid (q <= i) := hid (by rw [<- hTq.out, hT.out]; exact mrgP_len _ _ _)
            by_cases hlt : i < m + 1
            · have hil : i < (rawP f D (m + 1)).length := by rw [rawP_len]; exact hlt
              have halr := hid (hal.old LinR.mono hEt (fun j hj => hOT.ob_lt hj))
              have hgT := hid (mrgP_good (K := 1000000000) (f := f) (e := D) i (fun j _ => hgd.out j))
              have hpi := hid (rawP_get f D (m + 1) i hil)
              obtain ⟨p, hp⟩ : ∃ p, pcE f D i = p := ⟨_, rfl⟩
              have hgp : Hid (GoodP 1000000000 p) := hid (hp ▸ hgd.out i)
              rw [hp] at hpi
              rw [<- hT.out] at hgT
              have bx := Bx.new wr linZ 40
              go_upto_region 31 with (first
                | (with_reducible refine up_ixn slLin (by omega) (by assumption) ?_)
                | ((with_reducible show wpList _ _ _ (⟨_, .load 40 _, _, _, _, _⟩ :: _) _ _); refine st_loadElem stLin i halr.out hil rfl (by simp) LinR.agg ?_; intro u5 hu5; rw [hpi.out] at hu5; obtain ⟨s1, a1, n1, c1, d1, k1, e1, s2, a2, n2, c2, d2, k2, e2, s3, a3, n3, c3, d3, k3, e3, s4, a4, n4, c4, d4, k4, e4, rfl, qa, qb, qc, qd⟩ := hu5)
                | ((with_reducible show wpList _ _ _ (⟨_, .store 40 _ _, _, _, _, _⟩ :: _) _ _); refine st_storeBox stLin rfl rfl bx rfl rfl one14g ?_; intro w5 r1 r2; have hE5 : Ext wr w5 := ExtX.box ((ExtX.refl wr).alloc _) r2 (Nat.le_refl _)))
              go_upto_region 32 with fail
              obtain ⟨g19, hg19⟩ : ∃ g, wr.heap.size = g := ⟨_, rfl⟩
              have hob19 : ob oo g19 = false := hOT.ob_ge (Nat.le_of_eq hg19)
              rw [hg19] at r1
              rw [hg19]
              have hO5 := hOT.ext0 LinR.elem hE5
              have hX5 := HX.ext (w := wr) hXu hE5
              have hEd : Ext w5 w5.drew := (ExtX.refl w5).drew
              have hlw := (mk_ext (X := un Z oo) hE5)
              have qa5 := QC.mono _ _ _ _ hlw qa
              have qb5 := QC.mono _ _ _ _ hlw qb
              have qc5 := QC.mono _ _ _ _ hlw qc
              have qd5 := QC.mono _ _ _ _ hlw qd
              obtain ⟨c, hc⟩ : ∃ c, (match T.getLast? with | some o => decide (o.a = p.a) && decide (o.b = p.b) | none => false) = c := ⟨_, rfl⟩
              have hc' := hid hc
              have hXd := HX.ext (w := w5) hX5 hEd
              clear hc qa qb qc qd bx r2 hlw halr hpi
              (try simp only [Act.put])
              go_cut [160] from 137 to 159 (fun x wx => x = .bool c /\ Ext w5 wx)
              case first =>
                rcases Nat.eq_zero_or_pos q with hq0 | hq0
                · subst hq0
                  have hcf : c = false := by rw [<- hc'.out, List.length_eq_zero_iff.1 hTq.out]; rfl
                  refine wp_region_K 23 (fun _ => True) (by kernel_rfl) (by kernel_rfl) trivial (fun hHeld hOnce => ?_)
                  refine kt 0 hOnce ?_
                  refine kt 1 hOnce ?_
                  refine kt 2 hOnce ?_
                  refine ku 3 hOnce ?_
                  refine ku 4 hOnce ?_
                  refine ku 5 hOnce ?_
                  refine ku 6 hOnce ?_
                  refine ku 7 hOnce ?_
                  refine ku 8 hOnce ?_
                  refine ku 9 hOnce ?_
                  refine ku 10 hOnce ?_
                  refine ku 11 hOnce ?_
                  refine kt 12 hOnce ?_
                  refine kt 13 hOnce ?_
                  refine ku 14 hOnce ?_
                  refine ku 15 hOnce ?_
                  refine ku 16 hOnce ?_
                  refine ku 17 hOnce ?_
                  refine ku 18 hOnce ?_
                  refine ku 19 hOnce ?_
                  refine ku 20 hOnce ?_
                  refine ku 21 hOnce ?_
                  refine ku 22 hOnce ?_
                  refine kl 23 (fun K hK => ?_)
                  go_simp
                  refine hK.out _ _ ?_
                  clear hK K
                  go_wp2_with fail
                  go_meet
                  case rel => exact ⟨by rw [hcf], hEd⟩
                · have hql : q - 1 < T.length := by rw [hTq.out]; omega
                  obtain ⟨g2, o2, u2, hg2, hy2, hR2, hc2⟩ := hO5.elemAt (q - 1) hql
                  obtain ⟨o, ho⟩ : ∃ o, T[q - 1] = o := ⟨_, rfl⟩
                  rw [ho] at hR2
                  have hgo : Hid (GoodP 1000000000 o) := hid (hgT.out o (by rw [<- ho]; exact List.getElem_mem _))
                  have hcc : Hid (c = (decide (o.a = p.a) && decide (o.b = p.b))) := hid (by
                    rw [<- hc'.out, List.getLast?_eq_getElem?, hTq.out, List.getElem?_eq_getElem hql, ho])
                  obtain ⟨S1, A1, N1, C1, D1, K1, E1, S2, A2, N2, C2, D2, K2, E2, S3, A3, N3, C3, D3, K3, E3, S4, A4, N4, C4, D4, K4, E4, rfl, qe, qf, qg, qh⟩ := hR2
                  have hhd : Hd oo q := by have := hOT.hd; rw [hTq.out] at this; exact this
                  have ew : IntKind.i64.wrap ((q : Int) - 1) = (q : Int) - 1 := IntWalk.i64_in _ (by have := hq19'.out; omega)
                  have j1 : ∀ W, (Instr.indexAt 30 (.slice oo q oc) (.int .i64 ((q : Int) - 1))).run Tryz.prog W = .ok (.pointer (some ⟨g2, o2, none⟩)) W := by
                    rw [<- hg2, show ((q : Int) - 1) = ((q - 1 : Nat) : Int) by omega]; exact run_indexAt_adr slLin oo q oc .i64 (q - 1) hhd (by omega)
                  have hS : Hid (∀ w', Ext w5 w' -> w'.cell? ⟨g2, o2 + 8, none⟩ = some (.bool S3) /\ w'.cell? ⟨g2, o2 + 8 + 1, none⟩ = some (.slice A3 N3 C3) /\ w'.cell? ⟨g2, o2 + 8 + 2, none⟩ = some (.slice D3 K3 E3) /\ w'.cell? ⟨g2, o2 + 11, none⟩ = some (.bool S4) /\ w'.cell? ⟨g2, o2 + 11 + 1, none⟩ = some (.slice A4 N4 C4) /\ w'.cell? ⟨g2, o2 + 11 + 2, none⟩ = some (.slice D4 K4 E4) /\ w'.cell? ⟨g19, 8, none⟩ = some (.bool s3) /\ w'.cell? ⟨g19, 9, none⟩ = some (.slice a3 n3 c3) /\ w'.cell? ⟨g19, 10, none⟩ = some (.slice d3 k3 e3) /\ w'.cell? ⟨g19, 11, none⟩ = some (.bool s4) /\ w'.cell? ⟨g19, 12, none⟩ = some (.slice a4 n4 c4) /\ w'.cell? ⟨g19, 13, none⟩ = some (.slice d4 k4 e4)) := hid fun w' h =>
                    ⟨hc2.out noY _ h rfl 8 _ (by decide) rfl, hc2.out noY _ h rfl 9 _ (by decide) rfl, hc2.out noY _ h rfl 10 _ (by decide) rfl, hc2.out noY _ h rfl 11 _ (by decide) rfl, hc2.out noY _ h rfl 12 _ (by decide) rfl, hc2.out noY _ h rfl 13 _ (by decide) rfl, (r1.ext0 h).cell 8 rfl, (r1.ext0 h).cell 9 rfl, (r1.ext0 h).cell 10 rfl, (r1.ext0 h).cell 11 rfl, (r1.ext0 h).cell 12 rfl, (r1.ext0 h).cell 13 rfl⟩
                  have heq := hid (eequal (un Z oo) w5.drew _ _ o.a p.a hXd ((mkx QC.mono qg hEd).qv (Nat.le_trans hgo.out.1 (by decide))) ((mkx QC.mono qc5 hEd).qv (Nat.le_trans hgp.out.1 (by decide))))
                  have heq2 := hid fun w' (h : Ext w5 w') => eequal (un Z oo) w' _ _ o.b p.b (HX.ext (w := w5) hX5 h) ((mkx QC.mono qh h).qv (Nat.le_trans hgo.out.2.1 (by decide))) ((mkx QC.mono qd5 h).qv (Nat.le_trans hgp.out.2.1 (by decide)))
                  obtain ⟨x1, hx1⟩ : ∃ x, decide (o.a = p.a) = x := ⟨_, rfl⟩
                  obtain ⟨x2, hx2⟩ : ∃ x, decide (o.b = p.b) = x := ⟨_, rfl⟩
                  rw [hx1] at heq hcc
                  rw [hx2] at hcc
                  simp only [hx2] at heq2
                  have hgt : decide ((0 : Int) < (q : Int)) = true := by simp; omega
                  clear hg2 hy2 hc2 qe qf qg qh hx1 hx2
                  refine wp_region_K 23 (fun w' => w'.cell? ⟨g2, o2 + 8, none⟩ = some (.bool S3) /\ w'.cell? ⟨g2, o2 + 8 + 1, none⟩ = some (.slice A3 N3 C3) /\ w'.cell? ⟨g2, o2 + 8 + 2, none⟩ = some (.slice D3 K3 E3) /\ w'.cell? ⟨g2, o2 + 11, none⟩ = some (.bool S4) /\ w'.cell? ⟨g2, o2 + 11 + 1, none⟩ = some (.slice A4 N4 C4) /\ w'.cell? ⟨g2, o2 + 11 + 2, none⟩ = some (.slice D4 K4 E4) /\ w'.cell? ⟨g19, 8, none⟩ = some (.bool s3) /\ w'.cell? ⟨g19, 9, none⟩ = some (.slice a3 n3 c3) /\ w'.cell? ⟨g19, 10, none⟩ = some (.slice d3 k3 e3) /\ w'.cell? ⟨g19, 11, none⟩ = some (.bool s4) /\ w'.cell? ⟨g19, 12, none⟩ = some (.slice a4 n4 c4) /\ w'.cell? ⟨g19, 13, none⟩ = some (.slice d4 k4 e4)) (by kernel_rfl) (by kernel_rfl) (hS.out _ hEd) (fun hHeld hOnce => ?_)
                  refine kt 0 hOnce ?_
                  refine kt 1 hOnce ?_
                  refine kt 2 hOnce ?_
                  refine kt 3 hOnce ?_
                  refine kt 4 hOnce ?_
                  refine kt 5 hOnce ?_
                  refine kt 6 hOnce ?_
                  refine kt 7 hOnce ?_
                  refine kt 8 hOnce ?_
                  refine kt 9 hOnce ?_
                  refine kt 10 hOnce ?_
                  refine ks 11 (fun K hK => ?_)
                  go_simp
                  ((with_reducible refine heq.out.mono ?_); rintro ee wa ⟨ga, rfl⟩)
                  refine kcn hK (hS.out _ (hEd.trans ga)) (fun hHeld => ?_)
                  clear hK K
                  cases x1 with
                  | false =>
                    refine kt 12 hOnce ?_
                    refine kt 13 hOnce ?_
                    refine ku 14 hOnce ?_
                    refine ku 15 hOnce ?_
                    refine ku 16 hOnce ?_
                    refine ku 17 hOnce ?_
                    refine ku 18 hOnce ?_
                    refine ku 19 hOnce ?_
                    refine ku 20 hOnce ?_
                    refine ku 21 hOnce ?_
                    refine ku 22 hOnce ?_
                    refine kl 23 (fun K hK => ?_)
                    go_simp
                    refine hK.out _ _ ?_
                    clear hK K
                    go_wp2_with fail
                    go_meet
                    case rel => exact ⟨by rw [hcc.out]; rfl, hEd.trans ga⟩
                  | true =>
                    have hq2 := heq2.out _ (hEd.trans ga)
                    refine kt 12 hOnce ?_
                    refine kt 13 hOnce ?_
                    refine kt 14 hOnce ?_
                    refine kt 15 hOnce ?_
                    refine kt 16 hOnce ?_
                    refine kt 17 hOnce ?_
                    refine kt 18 hOnce ?_
                    refine kt 19 hOnce ?_
                    refine kt 20 hOnce ?_
                    refine kt 21 hOnce ?_
                    refine ks 22 (fun K hK => ?_)
                    go_simp
                    ((with_reducible refine hq2.mono ?_); rintro ee wb ⟨gb, rfl⟩)
                    refine kcn hK (hS.out _ (hEd.trans (ga.trans gb))) (fun hHeld => ?_)
                    clear hK K
                    refine kl 23 (fun K hK => ?_)
                    go_simp
                    refine hK.out _ _ ?_
                    clear hK K
                    go_wp2_with fail
                    go_meet
                    case rel => exact ⟨by rw [hcc.out]; rfl, hEd.trans (ga.trans gb)⟩
              case rest =>
                obtain ⟨rfl, hEc⟩ := hcut
                have hEwc := hEt.trans (hE5.trans hEc)
                have hXc : HX Z wc := hX11.ext hEwc
                have rc := r1.ext0 hEc
                have hOc := hO5.ext0 LinR.elem hEc
                have hlc := mk_ext (X := un Z oo) hEc
                have qbc := QC.mono _ _ _ _ hlc qb5
                have hpw : LinR (mk (un Z oo) wc) (.agg #[.bool s1, .slice a1 n1 c1, .slice d1 k1 e1, .bool s2, .slice a2 n2 c2, .slice d2 k2 e2, .bool p.lo.isNone, .bool p.hi.isNone, .bool s3, .slice a3 n3 c3, .slice d3 k3 e3, .bool s4, .slice a4 n4 c4, .slice d4 k4 e4]) p := LinR.of (QC.mono _ _ _ _ hlc qa5) qbc (QC.mono _ _ _ _ hlc qc5) (QC.mono _ _ _ _ hlc qd5) rfl rfl
                have hbc := hEwc.size
                have hq20 := hq19'.out
                clear qa5 qb5 qc5 qd5 hlc r1 hO5 hX5 hXd hEd
                cases c with
                | false =>
                  have hnew : Hid (T ++ [p] = mrgP f D (i + 1)) := hid (by
                    rw [mrgP_more, <- hT.out, hp]
                    have h9 := hc'.out
                    unfold mstep
                    split
                    · rename_i o ho
                      rw [ho] at h9
                      simp at h9
                      rw [if_neg (by rintro ⟨e1, e2⟩; exact h9 e1 e2)]
                    · rename_i ho
                      rw [List.getLast?_eq_none_iff.1 ho]; rfl)
                  go_wp2_with (first
                    | ((with_reducible show wpList _ _ _ (⟨_, .load 40 _, _, _, _, _⟩ :: _) _ _); refine st_loadBox stLin rfl rc rfl ?_)
                    | (at_builtin; refine st_append1n (l := T) slLin rfl LinR.elem hbc hXc q hTq.out rfl rfl hOc (.agg #[.bool s1, .slice a1 n1 c1, .slice d1 k1 e1, .bool s2, .slice a2 n2 c2, .slice d2 k2 e2, .bool p.lo.isNone, .bool p.hi.isNone, .bool s3, .slice a3 n3 c3, .slice d3 k3 e3, .bool s4, .slice a4 n4 c4, .slice d4 k4 e4]) p rfl hpw (by omega) (by omega) ?_; intro oo2 oc2 w12 hO12 hE12' hor))
                  have hE13 := hEwc.own hOc (Nat.le_refl _) hE12'
                  go_roundw
                  case rel => exact ⟨i + 1, q + 1, oo2, oc2, T ++ [p], by go_num, rfl, by omega, hnew, hid (by simp [hTq.out]), hO12, hE13⟩
                  case measure => simp [intOf]; omega
                | true =>
                  obtain ⟨o, hol, hoa, hob⟩ : ∃ o, T.getLast? = some o /\ o.a = p.a /\ o.b = p.b := by
                    have h9 := hc'.out
                    cases hl9 : T.getLast? with
                    | none => rw [hl9] at h9; cases h9
                    | some o => rw [hl9] at h9; simp at h9; exact ⟨o, rfl, h9⟩
                  have hq0 : 0 < q := by
                    rcases Nat.eq_zero_or_pos q with h0 | h0
                    · rw [List.length_eq_zero_iff.1 (hTq.out.trans h0)] at hol; cases hol
                    · exact h0
                  have hql : q - 1 < T.length := by rw [hTq.out]; omega
                  have ho : T[q - 1] = o := by
                    rw [List.getLast?_eq_getElem?, hTq.out, List.getElem?_eq_getElem hql] at hol
                    exact Option.some.inj hol
                  have hno : Hid ((({ o with hi := some (p.hi.getD 0) } : Pc)).hi.isNone = o.hi.isNone) := hid (by
                    obtain ⟨o', h1, h2⟩ := mrgP_hi (f := f) (e := D) (n := i) (by omega)
                    rw [<- hT.out, hol] at h1
                    obtain rfl := Option.some.inj h1
                    rw [h2]; unfold hiE
                    rw [if_neg (by rw [hDm.out]; omega)]
                    rfl)
                  have hnew : Hid ((T.set (q - 1) { o with hi := some (p.hi.getD 0) }).set (q - 1) { o with hi := p.hi } = mrgP f D (i + 1)) := hid (by
                    rw [List.set_set, set_last hTq.out hq0, mrgP_more, <- hT.out, hp]
                    unfold mstep
                    rw [hol]
                    simp only
                    rw [if_pos ⟨hoa, hob⟩])
                  have hhd : Hd oo q := by have := hOT.hd; rw [hTq.out] at this; exact this
                  have ew : IntKind.i64.wrap ((q : Int) - 1) = (q : Int) - 1 := IntWalk.i64_in _ (by omega)
                  obtain ⟨g2, o2, u2, hg2, hy2, _, _⟩ := hOc.elemAt (q - 1) hql
                  have j1 : ∀ W, (Instr.indexAt 30 (.slice oo q oc) (.int .i64 ((q : Int) - 1))).run Tryz.prog W = .ok (.pointer (some ⟨g2, o2, none⟩)) W := by
                    rw [<- hg2, show ((q : Int) - 1) = ((q - 1 : Nat) : Int) by omega]; exact run_indexAt_adr slLin oo q oc .i64 (q - 1) hhd (by omega)
                  have hA3 : adr oo ((q - 1) * 14 + 3) = ⟨g2, o2 + 3, none⟩ := by rw [<- adr_add, hg2, Addr.add_lit]
                  have hA7 : adr oo ((q - 1) * 14 + 7) = ⟨g2, o2 + 7, none⟩ := by rw [<- adr_add, hg2, Addr.add_lit]
                  have hEd : Ext wc wc.drew := (ExtX.refl wc).drew
                  have hOd := hOc.ext0 LinR.elem hEd
                  have qbd := QC.mono _ _ _ _ (mk_ext (X := un Z oo) hEd) qbc
                  have rd := rc.ext0 hEd
                  have hwS : wc.drew.cell? ⟨g19, 3, none⟩ = some (.bool s2) /\ wc.drew.cell? ⟨g19, 4, none⟩ = some (.slice a2 n2 c2) /\ wc.drew.cell? ⟨g19, 5, none⟩ = some (.slice d2 k2 e2) /\ wc.drew.cell? ⟨g19, 7, none⟩ = some (.bool p.hi.isNone) := ⟨rd.cell 3 rfl, rd.cell 4 rfl, rd.cell 5 rfl, rd.cell 7 rfl⟩
                  have hEwd := hEwc.trans hEd
                  clear hg2 hpw hc' hol hoa hob
                  go_upto_region 33 with fail
                  (try simp only [Act.put])
                  refine wp_region_K 15 (fun w' => w'.cell? ⟨g19, 3, none⟩ = some (.bool s2) /\ w'.cell? ⟨g19, 4, none⟩ = some (.slice a2 n2 c2) /\ w'.cell? ⟨g19, 5, none⟩ = some (.slice d2 k2 e2) /\ w'.cell? ⟨g19, 7, none⟩ = some (.bool p.hi.isNone)) (by kernel_rfl) (by kernel_rfl) hwS (fun hHeld hOnce => ?_)
                  refine kt 0 hOnce ?_
                  refine kt 1 hOnce ?_
                  refine kt 2 hOnce ?_
                  refine kt 3 hOnce ?_
                  refine kt 4 hOnce ?_
                  refine kt 5 hOnce ?_
                  refine kt 6 hOnce ?_
                  refine kt 7 hOnce ?_
                  refine kt 8 hOnce ?_
                  refine kt 9 hOnce ?_
                  refine kt 10 hOnce ?_
                  refine kt 11 hOnce ?_
                  refine ks 12 (fun K hK => ?_)
                  (refine step_storeElemSub rfl rfl tyLin tyRat LinR.elem (q - 1) 3 rfl hA3 hOd hql (by decide) (.agg #[.bool s2, .slice a2 n2 c2, .slice d2 k2 e2]) rfl rfl (one3 _ _ _ _ _ _ _) { o with hi := some (p.hi.getD 0) } (fun u hu => by rw [ho] at hu; exact LinR.putTo hu qbd rfl hno.out rfl rfl) ?_; intro w8 hO8 y8)
                  refine kcn hK ⟨y8.cellY hHeld.1 hob19, y8.cellY hHeld.2.1 hob19, y8.cellY hHeld.2.2.1 hob19, y8.cellY hHeld.2.2.2 hob19⟩ (fun hHeld => ?_)
                  clear hK K
                  refine kt 13 hOnce ?_
                  refine kt 14 hOnce ?_
                  refine kl 15 (fun K hK => ?_)
                  (refine step_storeElemSub rfl rfl tyLin tyBoolI LinR.elem (q - 1) 7 rfl hA7 hO8 (by rw [List.length_set]; exact hql) (by decide) (.bool p.hi.isNone) rfl rfl (by intro c hc; simp [cellsL, Value.cells] at hc; subst hc; rfl) { o with hi := p.hi } (fun u hu => by rw [List.getElem_set_self] at hu; exact LinR.putNo hu) ?_; intro w9' hO9 y9)
                  refine hK.out _ _ ?_
                  clear hK K
                  (try simp only [Act.put])
                  have hE13 := (hEwd.own hOd (Nat.le_refl _) y8).own hO8 (Nat.le_refl _) y9
                  go_wp2_with fail
                  go_roundw
                  case rel => exact ⟨i + 1, q, oo, oc, _, by go_num, rfl, by omega, hnew, hid (by rw [List.length_set, List.length_set]; exact hTq.out), hO9, hE13⟩
                  case measure => simp [intOf]; omega
            · obtain rfl : i = m + 1 := by omega
              have hTL : Hid (T = L) := hid (by rw [hcr.out, <- hDS.out, hDm.out]; exact hT.out)
              have hgT := hid (mrgP_good (K := 1000000000) (f := f) (e := D) (m + 1) (fun j _ => hgd.out j))
              rw [<- hT.out] at hgT
              clear hT
              go_upto_region 37 with fail
              have hOq : OL LinR 14 Z w11.heap.size 40 wr oo oc T := hOT
              clear hOT
              go_loopw [182] (fun c wr => ∃ (j : Nat), c = .int .i64 j /\ j <= q /\ OL LinR 14 Z w11.heap.size 40 wr oo oc T /\ Ext w11 wr) (fun c _ => q - (intOf c).toNat)
              case atStart => exact ⟨0, rfl, Nat.zero_le _, hOq, hEt⟩
              case round =>
                obtain ⟨j, rfl, hj, hOT, hEt⟩ := hrel
                clear hOq
                have hXt := hX11.ext hEt
                have hXu : HX (un Z oo) wr := hOT.unX hXt
                by_cases hlt : j < q
                · have hjl : j < T.length := by rw [hTq.out]; exact hlt
                  have hhd : Hd oo q := by have := hOT.hd; rw [hTq.out] at this; exact this
                  have hq20 := hq19'.out
                  obtain ⟨g2, o2, u2, hg2, hy2, hR2, hc2⟩ := hOT.elemAt j hjl
                  obtain ⟨o, ho⟩ : ∃ o, T[j] = o := ⟨_, rfl⟩
                  rw [ho] at hR2
                  have hgo : Hid (GoodP 1000000000 o) := hid (hgT.out o (by rw [<- ho]; exact List.getElem_mem _))
                  obtain ⟨S1, A1, N1, C1, D1, K1, E1, S2, A2, N2, C2, D2, K2, E2, S3, A3, N3, C3, D3, K3, E3, S4, A4, N4, C4, D4, K4, E4, rfl, qe, qf, qg, qh⟩ := hR2
                  have j1 : ∀ W, (Instr.indexAt 30 (.slice oo q oc) (.int .i64 j)).run Tryz.prog W = .ok (.pointer (some ⟨g2, o2, none⟩)) W := by
                    rw [<- hg2]; exact run_indexAt_adr slLin oo q oc .i64 j hhd hlt
                  have hA0 : adr oo (j * 14 + 0) = ⟨g2, o2, none⟩ := by rw [<- adr_add, hg2, Addr.add_lit]; rfl
                  have hA3 : adr oo (j * 14 + 3) = ⟨g2, o2 + 3, none⟩ := by rw [<- adr_add, hg2, Addr.add_lit]
                  have hS : Hid (∀ w', Ext wr w' -> w'.cell? ⟨g2, o2, none⟩ = some (.bool S1) /\ w'.cell? ⟨g2, o2 + 1, none⟩ = some (.slice A1 N1 C1) /\ w'.cell? ⟨g2, o2 + 2, none⟩ = some (.slice D1 K1 E1) /\ w'.cell? ⟨g2, o2 + 3, none⟩ = some (.bool S2) /\ w'.cell? ⟨g2, o2 + 3 + 1, none⟩ = some (.slice A2 N2 C2) /\ w'.cell? ⟨g2, o2 + 3 + 2, none⟩ = some (.slice D2 K2 E2)) := hid fun w' h =>
                    ⟨hc2.out noY _ h rfl 0 _ (by decide) rfl, hc2.out noY _ h rfl 1 _ (by decide) rfl, hc2.out noY _ h rfl 2 _ (by decide) rfl, hc2.out noY _ h rfl 3 _ (by decide) rfl, hc2.out noY _ h rfl 4 _ (by decide) rfl, hc2.out noY _ h rfl 5 _ (by decide) rfl⟩
                  have hcF := hid fun w' (h : Ext wr w') => eclean (un Z oo) w' _ (o.lo.getD 0) (HX.ext (w := wr) hXu h) ((mkx QC.mono qe h).qv (Nat.le_trans hgo.out.2.2.1 (by decide)))
                  have hcT := hid fun w' (h : Ext wr w') => eclean (un Z oo) w' _ (o.hi.getD 0) (HX.ext (w := wr) hXu h) ((mkx QC.mono qf h).qv (Nat.le_trans hgo.out.2.2.2 (by decide)))
                  have hset : Hid ((T.set j o).set j o = T) := hid (by rw [List.set_set, <- ho, List.set_getElem_self])
                  have hEd : Ext wr wr.drew := (ExtX.refl wr).drew
                  have hSd := hS.out _ hEd
                  clear hg2 hc2 qe qf qg qh
                  go_upto_region 39 with fail
                  (try simp only [Act.put])
                  refine wp_region_K 21 (fun _ => True) (by kernel_rfl) (by kernel_rfl) trivial (fun hHeld hOnce => ?_)
                  refine kt 0 hOnce ?_
                  refine kt 1 hOnce ?_
                  refine kt 2 hOnce ?_
                  refine kt 3 hOnce ?_
                  refine kt 4 hOnce ?_
                  refine kt 5 hOnce ?_
                  refine kt 6 hOnce ?_
                  refine kt 7 hOnce ?_
                  refine kt 10 hOnce ?_
                  refine kt 11 hOnce ?_
                  refine kt 12 hOnce ?_
                  refine kt 13 hOnce ?_
                  refine wpAnyK_two (i := 8) (j := 14) (oi := ⟨_, _, _, _, _, _⟩) (oj := ⟨_, _, _, _, _, _⟩) (by kernel_rfl) rfl rfl (fun K hK => ?_) (fun K hK => ?_)
                  · skip
                    go_simp
                    skip
                    refine kcn hK trivial (fun hHeld => ?_)
                    clear hK K
                    refine wpAnyK_two (i := 9) (j := 14) (oi := ⟨_, _, _, _, _, _⟩) (oj := ⟨_, _, _, _, _, _⟩) (by kernel_rfl) rfl rfl (fun K hK => ?_) (fun K hK => ?_)
                    · skip
                      go_simp
                      (with_reducible refine (hcF.out _ hEd).mono ?_); rintro ee wa ⟨ga, u7, rfl, hu7⟩; obtain ⟨s7, a7, n7, c7, d7, k7, e7, rfl⟩ := hu7.shape; have hSa := hS.out _ (hEd.trans ga)
                      refine kcn hK trivial (fun hHeld => ?_)
                      clear hK K
                      refine ks 14 (fun K hK => ?_)
                      go_simp
                      skip
                      refine kcn hK trivial (fun hHeld => ?_)
                      clear hK K
                      refine ks 15 (fun K hK => ?_)
                      go_simp
                      ((with_reducible refine (hcT.out _ (hEd.trans ga)).mono ?_); rintro ee wb ⟨gb, u8, rfl, hu8⟩; obtain ⟨s8, a8, n8, c8, d8, k8, e8, rfl⟩ := hu8.shape)
                      refine kcn hK trivial (fun hHeld => ?_)
                      clear hK K
                      have hEb := (hEd.trans ga).trans gb
                      have hOb := hOT.ext0 LinR.elem hEb
                      have hu7' := mkx QC.mono hu7 gb
                      have hEwb := hEt.trans hEb
                      refine kt 16 hOnce ?_
                      refine kt 17 hOnce ?_
                      refine ks 18 (fun K hK => ?_)
                      (refine step_storeElemSub rfl rfl tyLin tyRat LinR.elem j 0 rfl hA0 hOb hjl (by decide) (.agg #[.bool s7, .slice a7 n7 c7, .slice d7 k7 e7]) rfl rfl (one3 _ _ _ _ _ _ _) o (fun u hu => by rw [ho] at hu; exact LinR.putFrom hu hu7') ?_; intro w8 hO8 y8)
                      refine kcn hK trivial (fun hHeld => ?_)
                      clear hK K
                      have hu8' := hOb.own_read QC.mono hu8 y8
                      refine kt 19 hOnce ?_
                      refine kt 20 hOnce ?_
                      refine kl 21 (fun K hK => ?_)
                      (refine step_storeElemSub rfl rfl tyLin tyRat LinR.elem j 3 rfl hA3 hO8 (by rw [List.length_set]; exact hjl) (by decide) (.agg #[.bool s8, .slice a8 n8 c8, .slice d8 k8 e8]) rfl rfl (one3 _ _ _ _ _ _ _) o (fun u hu => by rw [List.getElem_set_self] at hu; exact LinR.putTo hu hu8' rfl rfl rfl rfl) ?_; intro w9' hO9 y9)
                      refine hK.out _ _ ?_
                      clear hK K
                      (try simp only [Act.put])
                      have hE13 := (hEwb.own hOb (Nat.le_refl _) y8).own hO8 (Nat.le_refl _) y9
                      rw [hset.out] at hO9
                      go_wp2_with fail
                      go_roundw
                      case rel =>
                        refine ⟨_, _, _, _, _, _, _, _, _, _, _, _, _, _, _, _, _, _, _, _, _, _, _, _, _, ?_, rfl⟩
                        exact ⟨j + 1, by go_num, by omega, hO9, hE13⟩
                      case measure => simp [intOf]; omega
                    · skip
                      go_simp
                      skip
                      refine kcn hK trivial (fun hHeld => ?_)
                      clear hK K
                      refine ks 9 (fun K hK => ?_)
                      go_simp
                      ((with_reducible refine (hcF.out _ (hEd)).mono ?_); rintro ee wa ⟨ga, u7, rfl, hu7⟩; obtain ⟨s7, a7, n7, c7, d7, k7, e7, rfl⟩ := hu7.shape)
                      refine kcn hK trivial (fun hHeld => ?_)
                      clear hK K
                      refine ks 15 (fun K hK => ?_)
                      go_simp
                      ((with_reducible refine (hcT.out _ (hEd.trans ga)).mono ?_); rintro ee wb ⟨gb, u8, rfl, hu8⟩; obtain ⟨s8, a8, n8, c8, d8, k8, e8, rfl⟩ := hu8.shape)
                      refine kcn hK trivial (fun hHeld => ?_)
                      clear hK K
                      have hEb := (hEd.trans ga).trans gb
                      have hOb := hOT.ext0 LinR.elem hEb
                      have hu7' := mkx QC.mono hu7 gb
                      have hEwb := hEt.trans hEb
                      refine kt 16 hOnce ?_
                      refine kt 17 hOnce ?_
                      refine ks 18 (fun K hK => ?_)
                      (refine step_storeElemSub rfl rfl tyLin tyRat LinR.elem j 0 rfl hA0 hOb hjl (by decide) (.agg #[.bool s7, .slice a7 n7 c7, .slice d7 k7 e7]) rfl rfl (one3 _ _ _ _ _ _ _) o (fun u hu => by rw [ho] at hu; exact LinR.putFrom hu hu7') ?_; intro w8 hO8 y8)
                      refine kcn hK trivial (fun hHeld => ?_)
                      clear hK K
                      have hu8' := hOb.own_read QC.mono hu8 y8
                      refine kt 19 hOnce ?_
                      refine kt 20 hOnce ?_
                      refine kl 21 (fun K hK => ?_)
                      (refine step_storeElemSub rfl rfl tyLin tyRat LinR.elem j 3 rfl hA3 hO8 (by rw [List.length_set]; exact hjl) (by decide) (.agg #[.bool s8, .slice a8 n8 c8, .slice d8 k8 e8]) rfl rfl (one3 _ _ _ _ _ _ _) o (fun u hu => by rw [List.getElem_set_self] at hu; exact LinR.putTo hu hu8' rfl rfl rfl rfl) ?_; intro w9' hO9 y9)
                      refine hK.out _ _ ?_
                      clear hK K
                      (try simp only [Act.put])
                      have hE13 := (hEwb.own hOb (Nat.le_refl _) y8).own hO8 (Nat.le_refl _) y9
                      rw [hset.out] at hO9
                      go_wp2_with fail
                      go_roundw
                      case rel =>
                        refine ⟨_, _, _, _, _, _, _, _, _, _, _, _, _, _, _, _, _, _, _, _, _, _, _, _, _, ?_, rfl⟩
                        exact ⟨j + 1, by go_num, by omega, hO9, hE13⟩
                      case measure => simp [intOf]; omega
                  · skip
                    go_simp
                    skip
                    refine kcn hK trivial (fun hHeld => ?_)
                    clear hK K
                    refine ks 8 (fun K hK => ?_)
                    go_simp
                    skip
                    refine kcn hK trivial (fun hHeld => ?_)
                    clear hK K
                    refine ks 9 (fun K hK => ?_)
                    go_simp
                    ((with_reducible refine (hcF.out _ (hEd)).mono ?_); rintro ee wa ⟨ga, u7, rfl, hu7⟩; obtain ⟨s7, a7, n7, c7, d7, k7, e7, rfl⟩ := hu7.shape)
                    refine kcn hK trivial (fun hHeld => ?_)
                    clear hK K
                    refine ks 15 (fun K hK => ?_)
                    go_simp
                    ((with_reducible refine (hcT.out _ (hEd.trans ga)).mono ?_); rintro ee wb ⟨gb, u8, rfl, hu8⟩; obtain ⟨s8, a8, n8, c8, d8, k8, e8, rfl⟩ := hu8.shape)
                    refine kcn hK trivial (fun hHeld => ?_)
                    clear hK K
                    have hEb := (hEd.trans ga).trans gb
                    have hOb := hOT.ext0 LinR.elem hEb
                    have hu7' := mkx QC.mono hu7 gb
                    have hEwb := hEt.trans hEb
                    refine kt 16 hOnce ?_
                    refine kt 17 hOnce ?_
                    refine ks 18 (fun K hK => ?_)
                    (refine step_storeElemSub rfl rfl tyLin tyRat LinR.elem j 0 rfl hA0 hOb hjl (by decide) (.agg #[.bool s7, .slice a7 n7 c7, .slice d7 k7 e7]) rfl rfl (one3 _ _ _ _ _ _ _) o (fun u hu => by rw [ho] at hu; exact LinR.putFrom hu hu7') ?_; intro w8 hO8 y8)
                    refine kcn hK trivial (fun hHeld => ?_)
                    clear hK K
                    have hu8' := hOb.own_read QC.mono hu8 y8
                    refine kt 19 hOnce ?_
                    refine kt 20 hOnce ?_
                    refine kl 21 (fun K hK => ?_)
                    (refine step_storeElemSub rfl rfl tyLin tyRat LinR.elem j 3 rfl hA3 hO8 (by rw [List.length_set]; exact hjl) (by decide) (.agg #[.bool s8, .slice a8 n8 c8, .slice d8 k8 e8]) rfl rfl (one3 _ _ _ _ _ _ _) o (fun u hu => by rw [List.getElem_set_self] at hu; exact LinR.putTo hu hu8' rfl rfl rfl rfl) ?_; intro w9' hO9 y9)
                    refine hK.out _ _ ?_
                    clear hK K
                    (try simp only [Act.put])
                    have hE13 := (hEwb.own hOb (Nat.le_refl _) y8).own hO8 (Nat.le_refl _) y9
                    rw [hset.out] at hO9
                    go_wp2_with fail
                    go_roundw
                    case rel =>
                      refine ⟨_, _, _, _, _, _, _, _, _, _, _, _, _, _, _, _, _, _, _, _, _, _, _, _, _, ?_, rfl⟩
                      exact ⟨j + 1, by go_num, by omega, hO9, hE13⟩
                    case measure => simp [intOf]; omega
                · obtain rfl : q = j := by omega
                  have hsl := hOT.sl LinR.elem
                  have hcap := hOT.lenCap
                  have hEw := hE.trans (hW9.out.trans (hE12.out.trans hEt))
                  rw [<- hZ] at hsl
                  have hsl' := hid (hsl.mono LinR.mono le_unbox)
                  rw [hTq.out] at hcap
                  rw [hTL.out] at hTq hsl'
                  clear hsl hOT hHeld
                  go_wp2_with fail
                  exact bodyPost_ret (results_tmp2 rfl _ _ _) rfl ⟨hEw, oo, oc, by rw [hTq.out]; rfl, by rw [hTq.out]; exact hcap, hsl'.out⟩
end Go.Proofs.YtgimdkjgaemcbaaGreat
namespace Go.Lin
open Go.Lim
theorem srt_of {l s : List Rat} (hp : s.Perm l) (hs : s.Pairwise (· <= ·)) : srt l = s := (srt_uniq hp hs).symm
theorem srt_w0 : srt [1, 3] = [1, 3] := srt_of (List.Perm.refl _) (by decide +kernel)
theorem srt_w1 : srt [1, 3, 1] = [1, 1, 3] := srt_of (by decide +kernel) (by decide +kernel)
theorem srt_w2 : srt [1, 3, 0] = [0, 1, 3] := srt_of (by decide +kernel) (by decide +kernel)
theorem srt_w3 : srt [1, 3, 3] = [1, 3, 3] := srt_of (by decide +kernel) (by decide +kernel)
theorem srt_w4 : srt [1, 3, 4] = [1, 3, 4] := srt_of (by decide +kernel) (by decide +kernel)
theorem srt_w5 : srt [0, 0, 3] = [0, 0, 3] := srt_of (by decide +kernel) (by decide +kernel)
theorem srt_w6 : srt [0, 0] = [0, 0] := srt_of (by decide +kernel) (by decide +kernel)
theorem dd_w : dd [1, 3] = [1, 3] := by decide +kernel
theorem est_w1 : estL 2 0 ([1, 3] ++ [1]) = 1 := by
  show sumL (winL (srt [1, 3, 1]) 1 2) / _ = _
  rw [srt_w1]; decide +kernel
theorem est_w2 : estL 2 0 ([1, 3] ++ [1 - 1]) = 1 := by
  rw [show (1 : Rat) - 1 = 0 by decide +kernel]
  show sumL (winL (srt [1, 3, 0]) 1 2) / _ = _
  rw [srt_w2]; decide +kernel
theorem est_w3 : estL 2 0 ([1, 3] ++ [3]) = 3 := by
  show sumL (winL (srt [1, 3, 3]) 1 2) / _ = _
  rw [srt_w3]; decide +kernel
theorem est_w4 : estL 2 0 ([1, 3] ++ [3 + 1]) = 3 := by
  rw [show (3 : Rat) + 1 = 4 by decide +kernel]
  show sumL (winL (srt [1, 3, 4]) 1 2) / _ = _
  rw [srt_w4]; decide +kernel
theorem est_w5 : estL 1 0 ([0, 0] ++ [3]) = 1 := by
  show sumL (winL (srt [0, 0, 3]) 0 3) / _ = _
  rw [srt_w5]; decide +kernel
theorem est_w6 : estL 1 0 [0, 0] = 0 := by
  show sumL (winL (srt [0, 0]) 0 2) / _ = _
  rw [srt_w6]; decide +kernel
theorem pc_w0 {f : Rat -> Rat} (h1 : f 1 = 1) (h0 : f (1 - 1) = 1) : pcE f [1, 3] 0 = ⟨none, some 1, 1, 0⟩ := by
  show Pc.mk none (some (fn [1, 3] 0)) (lineA f (fn [1, 3] 0) (fn [1, 3] 0 - 1)) (lineB f (fn [1, 3] 0) (fn [1, 3] 0 - 1)) = _
  have e : fn [1, 3] 0 = 1 := rfl
  rw [e]; unfold lineA lineB; rw [h1, h0]; simp only [Pc.mk.injEq, true_and]; decide +kernel
theorem pc_w1 {f : Rat -> Rat} (h1 : f 1 = 1) (h3 : f 3 = 3) : pcE f [1, 3] 1 = ⟨some 1, some 3, 0, 1⟩ := by
  show Pc.mk (some (fn [1, 3] 0)) (some (fn [1, 3] 1)) (lineA f (fn [1, 3] 0) (fn [1, 3] 1)) (lineB f (fn [1, 3] 0) (fn [1, 3] 1)) = _
  have e : fn [1, 3] 0 = 1 := rfl
  have e3 : fn [1, 3] 1 = 3 := rfl
  rw [e, e3]; unfold lineA lineB; rw [h1, h3]; simp only [Pc.mk.injEq, true_and]; decide +kernel
theorem pc_w2 {f : Rat -> Rat} (h3 : f 3 = 3) (h4 : f (3 + 1) = 3) : pcE f [1, 3] 2 = ⟨some 3, none, 3, 0⟩ := by
  show Pc.mk (some (fn [1, 3] 1)) none (lineA f (fn [1, 3] 1) (fn [1, 3] 1 + 1)) (lineB f (fn [1, 3] 1) (fn [1, 3] 1 + 1)) = _
  have e3 : fn [1, 3] 1 = 3 := rfl
  rw [e3]; unfold lineA lineB; rw [h3, h4]; simp only [Pc.mk.injEq, true_and]; decide +kernel
def crvW : List Pc := [⟨none, some 1, 1, 0⟩, ⟨some 1, some 3, 0, 1⟩, ⟨some 3, none, 3, 0⟩]
theorem crv_w : crvL 2 0 [1, 3] = crvW := by
  unfold crvL
  rw [srt_w0, dd_w]
  show ([pcE _ [1, 3] 0, pcE _ [1, 3] 1, pcE _ [1, 3] 2] : List Pc).foldl mstep [] = _
  rw [pc_w0 (f := fun z => estL 2 0 ([1, 3] ++ [z])) est_w1 est_w2, pc_w1 (f := fun z => estL 2 0 ([1, 3] ++ [z])) est_w1 est_w3, pc_w2 (f := fun z => estL 2 0 ([1, 3] ++ [z])) est_w3 est_w4]
  simp [mstep, crvW]
end Go.Lin
namespace Go.Rep
open Go.RowKit Go.Lim Go.Lin
theorem Sl.lin {X : Nat -> Bool} {w : World} {ao : Option Addr} {l : List Pc} (s : Sl LinR 14 (mk X w) ao l) (i : Nat) (hi : i < l.length) :
    ∃ g o s1 a1 n1 c1 d1 k1 e1 s2 a2 n2 c2 d2 k2 e2 s3 a3 n3 c3 d3 k3 e3 s4 a4 n4 c4 d4 k4 e4, adr ao (i * 14) = ⟨g, o, none⟩ /\ X g = false /\ Hid (∀ Y W', ExtX Y w W' -> Y g = false -> W'.cell? ⟨g, o, none⟩ = some (.bool s1) /\ W'.cell? ⟨g, o + 1, none⟩ = some (.slice a1 n1 c1) /\ W'.cell? ⟨g, o + 2, none⟩ = some (.slice d1 k1 e1)) /\ Hid (∀ Y W', ExtX Y w W' -> Y g = false -> W'.cell? ⟨g, o + 3, none⟩ = some (.bool s2) /\ W'.cell? ⟨g, o + 4, none⟩ = some (.slice a2 n2 c2) /\ W'.cell? ⟨g, o + 5, none⟩ = some (.slice d2 k2 e2)) /\ Hid (∀ Y W', ExtX Y w W' -> Y g = false -> W'.cell? ⟨g, o + 6, none⟩ = some (.bool l[i].lo.isNone) /\ W'.cell? ⟨g, o + 7, none⟩ = some (.bool l[i].hi.isNone)) /\ Hid (∀ Y W', ExtX Y w W' -> Y g = false -> W'.cell? ⟨g, o + 8, none⟩ = some (.bool s3) /\ W'.cell? ⟨g, o + 9, none⟩ = some (.slice a3 n3 c3) /\ W'.cell? ⟨g, o + 10, none⟩ = some (.slice d3 k3 e3)) /\ Hid (∀ Y W', ExtX Y w W' -> Y g = false -> W'.cell? ⟨g, o + 11, none⟩ = some (.bool s4) /\ W'.cell? ⟨g, o + 12, none⟩ = some (.slice a4 n4 c4) /\ W'.cell? ⟨g, o + 13, none⟩ = some (.slice d4 k4 e4)) /\ QC (mk X w) (.agg #[.bool s1, .slice a1 n1 c1, .slice d1 k1 e1]) (l[i].lo.getD 0) /\ QC (mk X w) (.agg #[.bool s2, .slice a2 n2 c2, .slice d2 k2 e2]) (l[i].hi.getD 0) /\ QC (mk X w) (.agg #[.bool s3, .slice a3 n3 c3, .slice d3 k3 e3]) l[i].a /\ QC (mk X w) (.agg #[.bool s4, .slice a4 n4 c4, .slice d4 k4 e4]) l[i].b := by
  obtain ⟨u, h1, h2, h3⟩ := s.2 i hi
  obtain ⟨s1, a1, n1, c1, d1, k1, e1, s2, a2, n2, c2, d2, k2, e2, s3, a3, n3, c3, d3, k3, e3, s4, a4, n4, c4, d4, k4, e4, rfl, q1, q2, q3, q4⟩ := h3
  have c0 := h2 0 (by simp [Value.cells])
  have hc : ∀ j (hj : j < 14) Y W', ExtX Y w W' -> Y (adr ao (i * 14)).block = false -> W'.cell? (adr ao (i * 14 + j)) = some ((Value.agg #[.bool s1, .slice a1 n1 c1, .slice d1 k1 e1, .bool s2, .slice a2 n2 c2, .slice d2 k2 e2, .bool l[i].lo.isNone, .bool l[i].hi.isNone, .bool s3, .slice a3 n3 c3, .slice d3 k3 e3, .bool s4, .slice a4 n4 c4, .slice d4 k4 e4]).cells[j]'(by simpa [Value.cells] using hj)) := fun j hj Y W' hE hY => hE.cellY (mk_cell (h2 j (by simpa [Value.cells] using hj))) hY
  refine ⟨(adr ao (i * 14)).block, (adr ao (i * 14)).off, s1, a1, n1, c1, d1, k1, e1, s2, a2, n2, c2, d2, k2, e2, s3, a3, n3, c3, d3, k3, e3, s4, a4, n4, c4, d4, k4, e4, rfl, ?_, hid fun Y W' hE hY => ⟨hc 0 (by decide) Y W' hE hY, hc 1 (by decide) Y W' hE hY, hc 2 (by decide) Y W' hE hY⟩, hid fun Y W' hE hY => ⟨hc 3 (by decide) Y W' hE hY, hc 4 (by decide) Y W' hE hY, hc 5 (by decide) Y W' hE hY⟩, hid fun Y W' hE hY => ⟨hc 6 (by decide) Y W' hE hY, hc 7 (by decide) Y W' hE hY⟩, hid fun Y W' hE hY => ⟨hc 8 (by decide) Y W' hE hY, hc 9 (by decide) Y W' hE hY, hc 10 (by decide) Y W' hE hY⟩, hid fun Y W' hE hY => ⟨hc 11 (by decide) Y W' hE hY, hc 12 (by decide) Y W' hE hY, hc 13 (by decide) Y W' hE hY⟩, q1, q2, q3, q4⟩
  cases hx : X (adr ao (i * 14)).block
  · rfl
  · have c9 : mk X w (adr ao (i * 14)) = some (.bool s1) := c0
    simp [mk, hx] at c9
end Go.Rep
namespace Go.Lin
open Go.Lim Go.Rep
theorem crv_good {k t : Int} {l : List Rat} {B : Nat} (hB : BR B l) (hl : l.length <= 19) (hBB : B <= 100000) : ∀ p ∈ crvL k t l, GoodP 1000000000 p :=
  mrgP_good _ fun i _ => pcE_good (B := B) (fun z hz => est_hq (B := B + 10) (fun q hq => by
    rw [List.mem_append, List.mem_singleton] at hq
    rcases hq with h | rfl
    · exact Nat.le_trans (hB q h) (by omega)
    · exact hz) (by simp; omega) (by omega)) (fun q hq => hB q (srt_mem.1 (((dd_facts _ (srt l) rfl (srt_pw l)).1 q).1 hq))) hBB i
theorem chn_pair {f : Rat -> Rat} {L : List Pc} (h : Chn f L none) {i : Nat} (h0 : 0 < i) (hi : i < L.length) : ∃ v, (L[i - 1]'(by omega)).hi = some v /\ L[i].lo = some v /\ (L[i - 1]'(by omega)).a + (L[i - 1]'(by omega)).b * v = L[i].a + L[i].b * v /\ ¬ (L[i].a = (L[i - 1]'(by omega)).a /\ L[i].b = (L[i - 1]'(by omega)).b) := by
  obtain ⟨v, h1, h2, h3, h4⟩ := h.link (i - 1) _ _ (List.getElem?_eq_getElem (by omega)) (by rw [show i - 1 + 1 = i by omega]; exact List.getElem?_eq_getElem hi)
  exact ⟨v, h1, h2, h3, fun h => h4 ⟨h.1.symm, h.2.symm⟩⟩
theorem chn_first {f : Rat -> Rat} {L : List Pc} (h : Chn f L none) (h0 : 0 < L.length) : L[0].lo = none := h.first _ (List.getElem?_eq_getElem h0)
theorem chn_last {f : Rat -> Rat} {L : List Pc} (h : Chn f L none) (h0 : 0 < L.length) : (L[L.length - 1]'(by omega)).hi = none := h.last _ (by rw [List.getLast?_eq_getElem?]; exact List.getElem?_eq_getElem (by omega))
theorem rk_in {k t : Int} {n : Nat} (hk : knownL k t) (hf : fitsL k t n) (h1 : k ≠ 1) (h5 : ¬ (k = 5 /\ t = 0)) (hn : ¬ (n = 1 /\ k ≠ 5)) : 1 <= rkA k t (n + 1) /\ rkB k t (n + 1) <= n := by
  obtain ⟨p1, p2, p3, p4⟩ := hk
  obtain ⟨q1, q2⟩ := hf
  have hc : k = 2 \/ k = 3 \/ k = 4 \/ k = 5 := by omega
  rcases hc with rfl | rfl | rfl | rfl <;> simp [rkA, rkB] <;> omega
end Go.Lin
namespace Go.Proofs.YtgimdkjgaemcbaaGreat
open Go.RowKit Go.Rep Go.Lim
set_option maxRecDepth 100000 in
theorem rqsame (X : Nat -> Bool) (w : World) (u v : Value) (x y : Rat) (hu : QC (mk X w) u x) (hv : QC (mk X w) v y) (hx : hq x <= 68719476736) : Calls Tryz.prog 18 #[u, v] w (BOut w (decide (x = y))) := by
  replace hx := hid hx
  obtain ⟨s1, a1, n1, c1, d1, k1, e1, rfl⟩ := hu.shape
  obtain ⟨s2, a2, n2, c2, d2, k2, e2, rfl⟩ := hv.shape
  obtain ⟨W, hW, hE, b0, b1, hz⟩ := boxes2 w #[.bool s1, .slice a1 n1 c1, .slice d1 k1 e1] #[.bool s2, .slice a2 n2 c2, .slice d2 k2 e2] 38 38
  have hu1 := mkx QC.mono hu hE
  have hv1 := mkx QC.mono hv hE
  obtain ⟨b, hb⟩ : ∃ b, w.heap.size = b := ⟨_, rfl⟩
  rw [hb] at b0 b1 hz
  have k00 := b0.cell 0 rfl
  have k01 := b0.cell 1 rfl
  have k02 := b0.cell 2 rfl
  have k10 := b1.cell 0 rfl
  have k11 := b1.cell 1 rfl
  have k12 := b1.cell 2 rfl
  clear hu hv
  obtain ⟨hxz, _, hxd⟩ := hu1.num
  obtain ⟨hyz, _, hyd⟩ := hv1.num
  have hl1 := hid (Nat.le_trans (hq_num x) (Nat.le_trans hx.out (by decide : (68719476736 : Nat) <= 1099511627776)))
  have hl2 := hid (Nat.le_trans (hq_dn x) (Nat.le_trans hx.out (by decide : (68719476736 : Nat) <= 1099511627776)))
  by_cases h1 : x.num = y.num
  · have hr : Hid (decide (dn x = dn y) = decide (x = y)) := hid (by
      rw [Bool.eq_iff_iff, decide_eq_true_eq, decide_eq_true_eq]
      constructor
      · intro h
        refine Rat.ext h1 ?_
        have := dn_zero x; have := dn_zero y
        unfold dn at h
        have := x.den_nz; have := y.den_nz
        split at h <;> split at h <;> omega
      · rintro rfl; rfl)
    have hd : Hid (decide (x.num = y.num) = true) := hid (decide_eq_true h1)
    clear h1
    go_enter Tryz.func18, Tryz.ntmps18
    go_wp2_with fail
    refine (risame X W _ _ _ _ hxz hyz hl1.out).mono ?_
    rintro e w5 ⟨hE5, rfl⟩
    rw [hd.out]
    have j02 := (b0.ext0 hE5).cell 2 rfl
    have j12 := (b1.ext0 hE5).cell 2 rfl
    clear k00 k01 k02 k10 k11 k12
    go_wp2_with fail
    refine (rnsame X w5 _ _ _ _ (mkx NC.mono hxd hE5) (mkx NC.mono hyd hE5) hl2.out).mono ?_
    rintro e w6 ⟨rfl, m, rfl⟩
    go_wp2_with fail
    go_ret
    exact ⟨(hE.trans hE5).drewN m, ret_bool hr.out⟩
  · have hr : Hid (false = decide (x = y)) := hid (decide_eq_false (by rintro rfl; exact h1 rfl)).symm
    have hd : Hid (decide (x.num = y.num) = false) := hid (decide_eq_false h1)
    clear h1
    go_enter Tryz.func18, Tryz.ntmps18
    go_wp2_with fail
    refine (risame X W _ _ _ _ hxz hyz hl1.out).mono ?_
    rintro e w5 ⟨hE5, rfl⟩
    rw [hd.out]
    clear k00 k01 k02 k10 k11 k12
    go_wp2_with fail
    go_ret
    exact ⟨hE.trans hE5, ret_bool hr.out⟩
end Go.Proofs.YtgimdkjgaemcbaaGreat
namespace Go.Proofs.YtgimdkjgaemcbaaGreat
open Go.RowKit Go.Rep Go.Lim
def TQOut (X : Nat -> Bool) (tb : Nat) (R : Mem -> Value -> Rat -> Prop) (k : Nat) (w : World) (e : Ending) (w' : World) : Prop := ExtX (tbm tb) w w' /\ TapeR X tb w' /\ ∃ u q, e = .returned u /\ R (mk X w') u q /\ hq q <= k
theorem TapeR.box {X : Nat -> Bool} {tb nb : Nat} {w W : World} (h : TapeR X tb w) (hE : Ext w W) : TapeR (hidB X w.heap.size nb) tb W := by
  have hlt := h.lt
  obtain ⟨hX, lo, l, cap, at_, h1, h2, h3, h4⟩ := h
  exact ⟨hidB_X hX, lo, l, cap, at_, by rw [hE.block tb hlt rfl]; exact h1, h2, h3, h4.mono (IntIn.mono _) (le_boxes hE)⟩
theorem TapeR.unbox {X : Nat -> Bool} {tb b nb : Nat} {w : World} (h : TapeR (hidB X b nb) tb w) (hX : X tb = true) : TapeR X tb w := by
  obtain ⟨_, lo, l, cap, at_, h1, h2, h3, h4⟩ := h
  exact ⟨hX, lo, l, cap, at_, h1, h2, h3, h4.mono (IntIn.mono _) le_unbox⟩
theorem TapeR.store {X : Nat -> Bool} {tb b nb : Nat} {w w' : World} (h : TapeR (hidB X b nb) tb w) (hE : ExtX (ob (some ⟨b, 0, Option.none⟩)) w w') (hb : 0 < nb) (ht : tb ≠ b) : TapeR (hidB X b nb) tb w' :=
  h.extY hE (fun k hk => by
    have : k = b := by
      have := hk
      simp [ob] at this
      omega
    subst this; simp [hidB]; omega) (ob_other ht)
theorem _root_.Go.Rep.ExtX.tbox {tb b : Nat} {w w4 w7 : World} (h : ExtX (tbm tb) w w4) (hE : ExtX (ob (some ⟨b, 0, none⟩)) w4 w7) (hb : w.heap.size <= b) : ExtX (tbm tb) w w7 := h.then_ hE (fun i hi _ => ob_other (by omega))
theorem lg_le1 {n : Nat} (h : n < 4294967296) : lg n <= 1 := by
  by_cases h0 : n = 0
  · subst h0; simp [lg_zero]
  · rw [lg_one_iff (by omega) h]; exact Nat.le_refl _
theorem lgI {a : Int} (h1 : -100000 <= a) (h2 : a <= 100000) : lg a.natAbs <= 1 := lg_le1 (by omega)
theorem hq_frac {a k : Int} (h1 : -100000 <= a) (h2 : a <= 100000) (h3 : -100000 <= k) (h4 : k <= 100000) : hq ((a : Rat) / (k : Rat)) <= 2 := by
  have := hq_div (a : Rat) (k : Rat)
  have := hq_int a 1 (lgI h1 h2) (by omega)
  have := hq_int k 1 (lgI h3 h4) (by omega)
  omega
set_option maxRecDepth 100000 in
theorem trat_any (X : Nat -> Bool) (tb : Nat) (w : World) (ht : TapeR X tb w) (hX : HX X w) : Calls Tryz.prog 23 #[.pointer (some ⟨tb, 0, none⟩)] w (TQOut X tb QC 2 w) := by
  have htb := ht.lt
  have htX := ht.1
  obtain ⟨W, hW, hE, b0, hz⟩ := boxes1 w #[.bool false, .slice none 0 0, .slice none 0 0] 38
  have hXW : HX (hidB X w.heap.size 1) W := hX.boxes hz
  have htW : TapeR (hidB X w.heap.size 1) tb W := ht.box hE
  obtain ⟨b, hb⟩ : ∃ b, w.heap.size = b := ⟨_, rfl⟩
  have hbw : w.heap.size <= b := by omega
  have htb' : tb ≠ b := by omega
  have hbt : b ≠ tb := by omega
  rw [hb] at b0 hz hXW htW
  have hEb : ExtX (tbm tb) w W := ExtX.of hE
  clear hE
  go_enter Tryz.func23, Tryz.ntmps23
  go_wp2_with fail
  refine (next_any (hidB X b 1) tb 8 _ htW (by omega)).mono ?_
  rintro e w1 ⟨hE1, ht1, m, rfl, hm⟩
  have b1 := b0.ext hE1 (tbm_ne hbt)
  have hX1 := hXW.ext hE1
  have hF1 := hEb.trans hE1
  clear b0 hXW htW hEb hE1
  by_cases h6 : m = 6
  · subst h6
    go_wp2_with fail
    refine (next_any (hidB X b 1) tb 13 _ ht1 (by omega)).mono ?_
    rintro e w2 ⟨hE2, ht2, m2, rfl, hm2⟩
    have hm2' : m2 < 13 := by omega
    have b2 := b1.ext hE2 (tbm_ne hbt)
    have hX2 := hX1.ext hE2
    have hF2 := hF1.trans hE2
    go_wp2_with fail
    refine (next_any (hidB X b 1) tb 6 _ ht2 (by omega)).mono ?_
    rintro e w3 ⟨hE3, ht3, m3, rfl, hm3⟩
    have hm3' : m3 < 6 := by omega
    have b3 := b2.ext hE3 (tbm_ne hbt)
    have hX3 := hX2.ext hE3
    have hF3 := hF2.trans hE3
    go_wp2_with fail
    refine (rqfraction (hidB X b 1) w3 _ _ hX3 (by omega) (by omega) (by omega) (by omega) (by omega) (Nat.le_trans (lgI (by omega) (by omega)) (by omega)) (Nat.le_trans (lgI (by omega) (by omega)) (by omega))).mono ?_
    rintro e w4 ⟨hE4, u4, rfl, hu4⟩
    obtain ⟨s6, a6, n6, c6, d6, k6, e6, rfl⟩ := hu4.shape
    have b4 := b3.ext0 hE4
    have ht4 := ht3.ext hE4
    have hF4 := hF3.trans (ExtX.of hE4)
    go_wp2_with ((with_reducible show wpList _ _ _ (⟨_, .store _ _ _, _, _, _, _⟩ :: _) _ _); refine st_storeBox stRat rfl rfl b4 rfl rfl (one3 _ _ _ _ _ _ _) ?_; intro w7 r1 r2)
    have h7 := QC.mono _ _ _ _ le_unbox (QC.mono _ _ _ _ (le_store r2 (by omega) (by omega)) hu4)
    exact bodyPost_ret (results_box rfl rfl stRat r1 rfl) rfl ⟨hF4.tbox r2 hbw, (ht4.store r2 (by omega) htb').unbox htX, _, _, rfl, h7, hq_frac (by omega) (by omega) (by omega) (by omega)⟩
  · by_cases h7 : m = 7
    · subst h7
      go_wp2_with fail
      refine (next_any (hidB X b 1) tb 2001 _ ht1 (by omega)).mono ?_
      rintro e w2 ⟨hE2, ht2, m2, rfl, hm2⟩
      have hm2' : m2 < 2001 := by omega
      have b2 := b1.ext hE2 (tbm_ne hbt)
      have hX2 := hX1.ext hE2
      have hF2 := hF1.trans hE2
      go_wp2_with fail
      refine (lit_pick (hidB X b 1) tb [1, 1, 7] _ _ _ w2 1 7 ht2 hX2 rfl rfl (by simp) (by simp) (hid (by simp))).mono ?_
      rintro e w3 ⟨hE3, ht3, m3, rfl, hm3, hm3'⟩
      have b3 := b2.ext hE3 (tbm_ne hbt)
      have hX3 := hX2.ext hE3
      have hF3 := hF2.trans hE3
      go_wp2_with fail
      refine (rqfraction (hidB X b 1) w3 _ _ hX3 (by omega) (by omega) (by omega) (by omega) (by omega) (Nat.le_trans (lgI (by omega) (by omega)) (by omega)) (Nat.le_trans (lgI (by omega) (by omega)) (by omega))).mono ?_
      rintro e w4 ⟨hE4, u4, rfl, hu4⟩
      obtain ⟨s6, a6, n6, c6, d6, k6, e6, rfl⟩ := hu4.shape
      have b4 := b3.ext0 hE4
      have ht4 := ht3.ext hE4
      have hF4 := hF3.trans (ExtX.of hE4)
      go_wp2_with ((with_reducible show wpList _ _ _ (⟨_, .store _ _ _, _, _, _, _⟩ :: _) _ _); refine st_storeBox stRat rfl rfl b4 rfl rfl (one3 _ _ _ _ _ _ _) ?_; intro w7 r1 r2)
      have h7 := QC.mono _ _ _ _ le_unbox (QC.mono _ _ _ _ (le_store r2 (by omega) (by omega)) hu4)
      exact bodyPost_ret (results_box rfl rfl stRat r1 rfl) rfl ⟨hF4.tbox r2 hbw, (ht4.store r2 (by omega) htb').unbox htX, _, _, rfl, h7, hq_frac (by omega) (by omega) (by omega) (by omega)⟩
    · have t6 : ((m : Int) == 6) = false := beqF (by omega)
      have t7 : ((m : Int) == 7) = false := beqF (by omega)
      go_wp2_with fail
      refine (next_any (hidB X b 1) tb 9 _ ht1 (by omega)).mono ?_
      rintro e w2 ⟨hE2, ht2, m2, rfl, hm2⟩
      have hm2' : m2 < 9 := by omega
      have b2 := b1.ext hE2 (tbm_ne hbt)
      have hX2 := hX1.ext hE2
      have hF2 := hF1.trans hE2
      go_wp2_with fail
      refine (rqfrom (hidB X b 1) w2 _ hX2 (by omega) (by omega)).mono ?_
      rintro e w4 ⟨hE4, u4, rfl, hu4⟩
      obtain ⟨s6, a6, n6, c6, d6, k6, e6, rfl⟩ := hu4.shape
      have b4 := b2.ext0 hE4
      have ht4 := ht2.ext hE4
      have hF4 := hF2.trans (ExtX.of hE4)
      go_wp2_with ((with_reducible show wpList _ _ _ (⟨_, .store _ _ _, _, _, _, _⟩ :: _) _ _); refine st_storeBox stRat rfl rfl b4 rfl rfl (one3 _ _ _ _ _ _ _) ?_; intro w7 r1 r2)
      have h7 := QC.mono _ _ _ _ le_unbox (QC.mono _ _ _ _ (le_store r2 (by omega) (by omega)) hu4)
      exact bodyPost_ret (results_box rfl rfl stRat r1 rfl) rfl ⟨hF4.tbox r2 hbw, (ht4.store r2 (by omega) htb').unbox htX, _, _, rfl, h7, Nat.le_trans (hq_int _ 1 (lgI (by omega) (by omega)) (by omega)) (by omega)⟩
end Go.Proofs.YtgimdkjgaemcbaaGreat
namespace Go.Proofs.YtgimdkjgaemcbaaGreat
open Go.RowKit Go.Rep Go.Lim
end Go.Proofs.YtgimdkjgaemcbaaGreat
namespace Go.Proofs.YtgimdkjgaemcbaaGreat
open Go.RowKit Go.Rep Go.Lim Go.Lin
def TFitOut (X : Nat -> Bool) (tb n : Nat) (w : World) (e : Ending) (w' : World) : Prop := ExtX (tbm tb) w w' /\ TapeR X tb w' /\ ∃ k t : Int, e = .returned (.agg #[.int .i64 k, .int .i64 t]) /\ knownL k t /\ fitsL k t n /\ t <= n
def TValOut (X : Nat -> Bool) (tb n : Nat) (w : World) (e : Ending) (w' : World) : Prop := ExtX (tbm tb) w w' /\ ∃ (ao : Option Addr) (l : List Rat) (cap : Nat), e = .returned (.slice ao l.length cap) /\ l.length <= cap /\ 1 <= l.length /\ l.length <= n /\ BR 2 l /\ TapeR (un X ao) tb w' /\ OL QC 3 X w.heap.size 38 w' ao cap l
theorem iw_ext {tb : Nat} {w w1 w2 : World} (h : w.heap.size = tb) (hE : Ext w w1) (h2 : ExtX (tbm tb) w1 w2) : Ext w w2 := hE.then_ h2 fun i hi _ => tbm_ne (by omega)
theorem un_comm (X : Nat -> Bool) (a b : Option Addr) : un (un X a) b = un (un X b) a := by
  funext k
  simp only [un]
  cases X k <;> cases ob a k <;> cases ob b k <;> rfl
set_option maxRecDepth 100000 in
set_option maxHeartbeats 1600000 in
theorem tvalues_any (X : Nat -> Bool) (tb n : Nat) (w : World) (ht : TapeR X tb w) (hX : HX X w) (hn1 : 1 <= n) (hn : n <= 64) :
    Calls Tryz.prog 15 #[.pointer (some ⟨tb, 0, none⟩), .int .i64 (n : Int)] w (TValOut X tb n w) := by
  have hsub := tbm_sub ht.1
  have htX := ht.1
  go_enter Tryz.func15, Tryz.ntmps15
  go_wp2_with fail
  refine (trat_any X tb w ht hX).mono ?_
  rintro e w1 ⟨hE1, ht1, u1, q1, rfl, hu1, hq1⟩
  obtain ⟨s1, a1, n1, c1, d1, k1, e1, rfl⟩ := hu1.shape
  have hX1 := hX.ext hE1
  have hL := (lit_rat1 X w1 s1 a1 n1 c1 d1 k1 e1 q1 38 hX1 hu1).base_le (b' := w.heap.size) hE1.size
  have ht1X := ht1.old (oo := some ⟨w1.heap.size, 0, none⟩) ((ExtX.refl (Y := noY) w1).alloc (.cells #[.bool s1, .slice a1 n1 c1, .slice d1 k1 e1] 38)) (ob_new w1)
  have hF1 : ExtX (tbm tb) w (w1.alloc (.cells #[.bool s1, .slice a1 n1 c1, .slice d1 k1 e1] 38)) := hE1.alloc _
  obtain ⟨w2, hw2⟩ : ∃ w2, w1.alloc (.cells #[.bool s1, .slice a1 n1 c1, .slice d1 k1 e1] 38) = w2 := ⟨_, rfl⟩
  obtain ⟨g1, hg1⟩ : ∃ g1 : Option Addr, some ⟨w1.heap.size, 0, none⟩ = g1 := ⟨_, rfl⟩
  rw [hg1] at hL ht1X
  rw [hw2] at hL ht1X hF1
  go_wp2_with fail
  have hX2 : HX X w2 := hX.ext hF1
  refine (next_any (un X g1) tb n _ ht1X (by omega)).mono ?_
  rintro e w3 ⟨hE3, ht3, m3, rfl, hm3⟩
  have hO3 := hL.ext QC.elem hE3 (fun k _ hk => hsub k hk) (fun _ _ h => h)
  have hF3 := hF1.trans hE3
  clear hL ht1X hF1 hE3 hX2 hX1 ht1 hE1 hw2 hg1
  go_wp2_with fail
  go_loopw [5, 6] (fun s c wr => ∃ (i k : Nat) (oo : Option Addr) (co : Nat) (l : List Rat), c = .int .i64 i /\ s = .slice oo k co /\ l.length = k /\ 1 <= k /\ i + k <= n /\ BR 2 l /\ OL QC 3 X w.heap.size 38 wr oo co l /\ TapeR (un X oo) tb wr /\ ExtX (tbm tb) w wr) (fun _ c _ => (intOf c).toNat)
  case atStart => exact ⟨m3, 1, _, _, [q1], rfl, rfl, rfl, Nat.le_refl _, by omega, fun q hq => by rw [List.mem_singleton.1 hq]; exact hq1, hO3, ht3, hF3⟩
  case round =>
    clear hO3 ht3 hF3
    obtain ⟨i, k, oo, co, l, rfl, rfl, hlk, hk1, hik, hB, hO, htr, hE⟩ := hrel
    have hXr : HX X wr := hX.ext hE
    by_cases hlt : 0 < i
    · have hXu : HX (un X oo) wr := hO.unX hXr
      have hlk' := hid hlk
      obtain ⟨i, rfl⟩ : ∃ j, i = j + 1 := ⟨i - 1, by omega⟩
      clear hlk
      go_wp2_with fail
      refine (trat_any (un X oo) tb wr htr hXu).mono ?_
      rintro e w2 ⟨hE2, ht2, u6, q, rfl, hu6, hq6⟩
      obtain ⟨s6, a6, n6, c6, d6, k6, e6, rfl⟩ := hu6.shape
      have hO2 := hO.ext QC.elem hE2 (fun k _ hk => hsub k hk) (fun _ _ h => h)
      have hX2 := hXu.ext hE2
      have hF2 := hE.trans hE2
      have hF2s := hid hF2.size
      have bx := Bx.new w2 #[.bool false, .slice none 0 0, .slice none 0 0] 38
      obtain ⟨bo, hbo⟩ : ∃ bo, w2.heap.size = bo := ⟨_, rfl⟩
      rw [hbo] at bx
      have hbnew : ∀ j, j < w2.heap.size -> ob (some ⟨bo, 0, none⟩) j = false := fun j hj => ob_other (by omega)
      have htbo : tb < bo := by have := ht2.lt; omega
      go_wp2_with ((with_reducible show wpList _ _ _ (⟨_, .store 38 _ _, _, _, _, _⟩ :: _) _ _); refine st_storeBox stRat rfl rfl bx rfl rfl (one3 _ _ _ _ _ _ _) ?_; intro w4 r1 r2)
      have hE4 : Ext w2 w4 := ExtX.box ((ExtX.refl w2).alloc _) r2 (by omega)
      obtain ⟨Xb, hXb⟩ : ∃ Xb, un X (some ⟨bo, 0, none⟩) = Xb := ⟨_, rfl⟩
      have hXbu : un (un X oo) (some ⟨bo, 0, none⟩) = un Xb oo := by rw [un_comm, hXb]
      have ht4 : TapeR (un Xb oo) tb w4 := by rw [<- hXbu]; exact ht2.old hE4 hbnew
      have hu4 : QC (mk (un Xb oo) w4) (.agg #[.bool s6, .slice a6 n6 c6, .slice d6 k6 e6]) q := by rw [<- hXbu]; exact old_un QC.mono hu6 hE4 hbnew
      have hX4 : HX Xb w4 := fun k hk => by
        rw [<- hXb] at hk
        by_cases hx : X k = true
        · exact (hX.ext hF2).ext hE4 k hx
        · have : bo = k := by simpa [un, hx, ob] using hk
          have := r1.lt
          omega
      have hO4 : OL QC 3 Xb w.heap.size 38 w4 oo co l := hO2.ext QC.elem hE4 (fun k _ hk => by simp [noY] at hk) (fun k hk hz => by
        rw [<- hXb] at hz
        rcases Bool.or_eq_true_iff.1 hz with h | h
        · exact h
        · rw [hbnew k hk] at h; exact absurd h (by decide))
      have hF4 : ExtX (tbm tb) w w4 := hF2.trans (ExtX.of hE4)
      have hbX : Xb bo = true := by rw [<- hXb]; simp [un, ob]
      have hsubX : ∀ k, X k = true -> Xb k = true := fun k hk => by rw [<- hXb]; exact un_left hk
      clear hO2 hu6 ht2 bx hE4 hX2 hO hXu hXr hE2 hF2 r2
      refine (tbool_any (un Xb oo) tb 4 w4 ht4 (by decide) (by decide)).mono ?_
      rintro e w5 ⟨hE5, ht5, bb, rfl⟩
      have hX5 : HX Xb w5 := hX4.ext hE5
      have hO5 := hO4.ext QC.elem hE5 (fun k _ hk => hsubX k (hsub k hk)) (fun _ _ h => h)
      have hu5 := QC.mono _ _ _ _ (mk_mono hE5 (fun k hk => un_left (hsubX k (hsub k hk)))) hu4
      have hF5 := hF4.trans hE5
      have r5 := r1.ext hE5 (tbm_ne (by omega))
      clear hO4 hu4 hF4 ht4 hX4 hE5
      cases bb
      · have hsz5 := hF5.size
        go_wp2_with (first | ((with_reducible show wpList _ _ _ (⟨_, .load 38 _, _, _, _, _⟩ :: _) _ _); refine st_loadBox stRat rfl r5 rfl ?_) | (at_builtin; refine st_append1n (l := l) slRat rfl QC.elem hsz5 hX5 k hlk'.out rfl rfl hO5 (.agg #[.bool s6, .slice a6 n6 c6, .slice d6 k6 e6]) q rfl hu5 (by omega) (by omega) ?_; intro oo2 co2 w7 hO7 hE7 hor))
        have hE8 := hF5.own hO5 (Nat.le_refl _) hE7
        have ht8 := (ht5.unstep (hO5.not_ob (hsubX _ htX)) hE7 hor)
        have ht9 : TapeR (un X oo2) tb w7 := by
          rw [<- hXb, un_comm] at ht8
          exact ht8.unX (un_left htX)
        have hO9 : OL QC 3 X w.heap.size 38 w7 oo2 co2 (l ++ [q]) := hO7.ext QC.elem (ExtX.refl (Y := noY) w7) (fun k _ hk => by simp [noY] at hk) (fun k _ hk => hsubX k hk)
        have hB2 : BR 2 (l ++ [q]) := fun x hx => by
          rcases List.mem_append.1 hx with h | h
          · exact hB x h
          · rw [List.mem_singleton.1 h]; exact hq6
        have hl2 : (l ++ [q]).length = k + 1 := by rw [List.length_append, hlk'.out]; rfl
        go_roundw
        case rel => exact ⟨i, k + 1, oo2, co2, _, by go_num, by go_num, hl2, by omega, by omega, hB2, hO9, ht9, hE8⟩
        case measure => simp [intOf]
      · go_wp2_with fail
        refine (next_any (un Xb oo) tb k w5 ht5 (by omega)).mono ?_
        rintro e w6 ⟨hE6, ht6, m6, rfl, hm6⟩
        have hm6k : m6 < k := by omega
        have hm6' : m6 < l.length := by rw [hlk'.out]; exact hm6k
        have hX6 : HX Xb w6 := hX5.ext hE6
        have hO6 := hO5.ext QC.elem hE6 (fun k _ hk => hsubX k (hsub k hk)) (fun _ _ h => h)
        have hF6 := hF5.trans hE6
        have r6 := r5.ext hE6 (tbm_ne (by omega))
        have hh6 := hO6.hd
        rw [hlk'.out] at hh6
        have hqm := hB l[m6] (List.getElem_mem _)
        obtain ⟨x, hx⟩ : ∃ x, l[m6] = x := ⟨_, rfl⟩
        rw [hx] at hqm
        have hx' := hid hx
        clear hx hO5 ht5 hX5 r5 hu5 hF5 hE6 r1
        go_wp2_with (first
          | (with_reducible refine up_ixn slRat (by omega) (by assumption) ?_)
          | ((with_reducible show wpList _ _ _ (⟨_, .load 38 _, _, _, _, _⟩ :: _) _ _); refine st_loadOL stRat m6 hO6 hm6' rfl (by simp) QC.agg ?_; intro u7 hu7; rw [hx'.out] at hu7; obtain ⟨s7, a7, n7, c7, d7, k7, e7, rfl⟩ := hu7.shape)
          | ((with_reducible show wpList _ _ _ (⟨_, .store 38 _ _, _, _, _, _⟩ :: _) _ _); refine st_storeBox stRat rfl rfl r6 rfl rfl (one3 _ _ _ _ _ _ _) ?_; intro w8 r8 r9; have hO8 := hO6.ext QC.elem r9 (fun k _ hk => by have : bo = k := by { simpa [ob] using hk }; rw [<- this]; exact hbX) (fun _ _ h => h); have hu8 := QC.mono _ _ _ _ (mk_mono r9 (fun k hk => un_left (by have : bo = k := by { simpa [ob] using hk }; rw [<- this]; exact hbX))) hu7; have hX8 := hX6.ext r9)
          | ((with_reducible show wpList _ _ _ (⟨_, .load 38 _, _, _, _, _⟩ :: _) _ _); refine st_loadBox stRat rfl r8 rfl ?_)
          | (at_builtin; refine st_append1n (l := l) slRat rfl QC.elem (Nat.le_trans hF6.size r9.size) hX8 k hlk'.out rfl rfl hO8 (.agg #[.bool s7, .slice a7 n7 c7, .slice d7 k7 e7]) x rfl hu8 (by omega) (by omega) ?_; intro oo2 co2 wa hOa hEa hor))
        have hbs : w.heap.size <= bo := by have := hF2s.out; omega
        have hF8 : ExtX (tbm tb) w w8 := hF6.then_ r9 fun i hi _ => ob_other (by omega)
        have hE9 := hF8.own hO8 (Nat.le_refl _) hEa
        have ht7 : TapeR (un Xb oo) tb w8 := ht6.extY r9 (fun k hk => un_left (by
          have : bo = k := by simpa [ob] using hk
          rw [<- this]; exact hbX)) (ob_other (by omega))
        have ht8 := ht7.unstep (hO8.not_ob (hsubX _ htX)) hEa hor
        have ht9 : TapeR (un X oo2) tb wa := by
          rw [<- hXb, un_comm] at ht8
          exact ht8.unX (un_left htX)
        have hO9 : OL QC 3 X w.heap.size 38 wa oo2 co2 (l ++ [x]) := hOa.ext QC.elem (ExtX.refl (Y := noY) wa) (fun k _ hk => by simp [noY] at hk) (fun k _ hk => hsubX k hk)
        have hB2 : BR 2 (l ++ [x]) := fun y hy => by
          rcases List.mem_append.1 hy with h | h
          · exact hB y h
          · rw [List.mem_singleton.1 h]; exact hqm
        have hl2 : (l ++ [x]).length = k + 1 := by rw [List.length_append, hlk'.out]; rfl
        go_roundw
        case rel => exact ⟨i, k + 1, oo2, co2, _, by go_num, by go_num, hl2, by omega, by omega, hB2, hO9, ht9, hE9⟩
        case measure => simp [intOf]
    · have hil : i = 0 := by omega
      subst hil hlk
      have hc := hO.lenCap
      go_wp2_with fail
      go_ret
      exact ⟨hE, oo, l, co, rfl, hc, hk1, by omega, hB, htr, hO⟩
set_option maxRecDepth 100000 in
set_option maxHeartbeats 1600000 in
theorem tfitting_any (X : Nat -> Bool) (tb n : Nat) (w : World) (ht : TapeR X tb w) (hX : HX X w) (hn1 : 1 <= n) (hn : n <= 64) :
    Calls Tryz.prog 16 #[.pointer (some ⟨tb, 0, none⟩), .int .i64 (n : Int)] w (TFitOut X tb n w) := by
  have htb := ht.lt
  have htX := ht.1
  obtain ⟨W, hW, hE, b0, hz⟩ := boxes1 w #[.int .i64 0, .int .i64 0] 28
  have hXW : HX (hidB X w.heap.size 1) W := hX.boxes hz
  have htW : TapeR (hidB X w.heap.size 1) tb W := ht.box hE
  obtain ⟨b, hb⟩ : ∃ b, w.heap.size = b := ⟨_, rfl⟩
  have hbw : w.heap.size <= b := by omega
  have htb' : tb ≠ b := by omega
  have hbt : b ≠ tb := by omega
  rw [hb] at b0 hz hXW htW
  have hEb : ExtX (tbm tb) w W := ExtX.of hE
  have eq1 : Int.tdiv ((n : Int) - 1) 2 = ((n : Int) - 1) / 2 := Int.tdiv_eq_ediv_of_nonneg (by omega)
  clear hE
  go_enter Tryz.func16, Tryz.ntmps16
  go_wp2_with fail
  refine (next_any (hidB X b 1) tb 5 _ htW (by omega)).mono ?_
  rintro e w1 ⟨hE1, ht1, m, rfl, hm⟩
  have b1 := b0.ext hE1 (tbm_ne hbt)
  have hX1 := hXW.ext hE1
  have hF1 := hEb.trans hE1
  have bx := Bx.new w1 #[.int .i64 0, .int .i64 0] 28
  obtain ⟨bo, hbo⟩ : ∃ bo, w1.heap.size = bo := ⟨_, rfl⟩
  rw [hbo] at bx
  have hbob : b < bo := by have := b1.lt; omega
  have htbo : tb < bo := by have := ht1.lt; omega
  clear b0 hXW htW hEb hE1
  by_cases h4 : m = 4
  · subst h4
    have ew0 : IntKind.i64.wrap ((n : Int) - 1) = (n : Int) - 1 := IntWalk.i64_in _ (by omega)
    have ew1 : IntKind.i64.wrap (((n : Int) - 1) / 2 + 1) = ((n : Int) - 1) / 2 + 1 := IntWalk.i64_in _ (by omega)
    have hn0 : decide ((0 : Int) < (n : Int)) = true := decide_eq_true (by omega)
    go_wp2_with ((with_reducible show wpList _ _ _ (⟨_, .store 28 _ _, _, _, _, _⟩ :: _) _ _); refine st_storeBox stLoc rfl rfl bx rfl rfl (by simp [Value.oneCell']) ?_; intro w2 r1 r2; have k0 : w2.cell? ⟨bo, 0, none⟩ = some (.int .i64 5) := r1.cell 0 rfl)
    have hE2 : Ext w1 w2 := ExtX.box ((ExtX.refl w1).alloc _) r2 (by omega)
    have hbnew : ∀ j, j < w1.heap.size -> ob (some ⟨bo, 0, none⟩) j = false := fun j hj => ob_other (by omega)
    have ht2 : TapeR (un (hidB X b 1) (some ⟨bo, 0, none⟩)) tb w2 := ht1.old hE2 hbnew
    have b2 := b1.ext0 hE2
    have hF2 := hF1.trans (ExtX.of hE2)
    refine (next_any (un (hidB X b 1) (some ⟨bo, 0, none⟩)) tb (((n : Int) - 1) / 2 + 1) w2 ht2 (by omega)).mono ?_
    rintro e w3 ⟨hE3, ht3, m3, rfl, hm3⟩
    have r3 := r1.ext hE3 (tbm_ne (by omega))
    have b3 := b2.ext hE3 (tbm_ne hbt)
    have hF3 := hF2.trans hE3
    clear k0 b1 b2 r1 r2 bx ht1 ht2 hE3 hF1 hF2 hX1
    go_wp2_with (first
      | ((with_reducible show wpList _ _ _ (⟨_, .store 3 _ _, _, _, _, _⟩ :: _) _ _); refine st_storeCell (v := .int .i64 (m3 : Int)) tyInt rfl rfl rfl rfl r3 (by decide) ?_; intro w4 r4 y4; have b4 := b3.ext y4 (ob_other (by omega)))
      | ((with_reducible show wpList _ _ _ (⟨_, .load 28 _, _, _, _, _⟩ :: _) _ _); refine st_loadBox stLoc rfl r4 rfl ?_)
      | ((with_reducible show wpList _ _ _ (⟨_, .store 28 _ _, _, _, _, _⟩ :: _) _ _); refine st_storeBox stLoc rfl rfl b4 rfl rfl (by simp [Value.oneCell']) ?_; intro w5 r5 y5))
    have hbw1 : w.heap.size <= b := hbw
    have ht4 : TapeR (un (hidB X b 1) (some ⟨bo, 0, none⟩)) tb w4 := ht3.extY y4 (fun k hk => un_right hk) (ob_other (by omega))
    have ht5 := ((ht4.unX (by rw [hidB_X htX])).store y5 (by omega) htb').unbox htX
    have hF4 : ExtX (tbm tb) w w4 := hF3.then_ y4 fun i hi _ => ob_other (by omega)
    exact bodyPost_ret (results_box rfl rfl stLoc r5 rfl) rfl ⟨hF4.tbox y5 hbw, ht5, 5, (m3 : Int), rfl, ⟨by omega, by omega, by omega, Or.inl rfl⟩, ⟨hn1, Or.inr (by omega)⟩, by omega⟩
  · have h5 : (1 + (m : Int) == 5) = false := beqF (by omega)
    go_wp2_with (first
      | ((with_reducible show wpList _ _ _ (⟨_, .store 28 _ _, _, _, _, _⟩ :: _) _ _); refine st_storeBox stLoc rfl rfl bx rfl rfl (by simp [Value.oneCell']) ?_; intro w2 r1 r2; have k0 : w2.cell? ⟨bo, 0, none⟩ = some (.int .i64 (1 + (m : Int))) := r1.cell 0 rfl; have hE2 : Ext w1 w2 := ExtX.box ((ExtX.refl w1).alloc _) r2 (by omega); have b2 := b1.ext0 hE2; clear bx)
      | ((with_reducible show wpList _ _ _ (⟨_, .load 28 _, _, _, _, _⟩ :: _) _ _); refine st_loadBox stLoc rfl r1 rfl ?_)
      | ((with_reducible show wpList _ _ _ (⟨_, .store 28 _ _, _, _, _, _⟩ :: _) _ _); refine st_storeBox stLoc rfl rfl b2 rfl rfl (by simp [Value.oneCell']) ?_; intro w5 r5 y5))
    have ht5 := ((ht1.ext hE2).store y5 (by omega) htb').unbox htX
    have hF2 := hF1.trans (ExtX.of hE2)
    exact bodyPost_ret (results_box rfl rfl stLoc r5 rfl) rfl ⟨hF2.tbox y5 hbw, ht5, 1 + (m : Int), 0, rfl, ⟨by omega, by omega, by omega, Or.inr rfl⟩, ⟨hn1, Or.inl (by omega)⟩, by omega⟩
end Go.Proofs.YtgimdkjgaemcbaaGreat
