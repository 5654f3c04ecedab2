/- reference 06: reduce. Conditions: few rows and columns, numbers of few digits. reference 06: Reduce, Rank, Det. Conditions: few rows and columns, numbers of few digits. reference 03: TakeList, with the slice owned; reference 06: beside, Inverse. Conditions: few rows and columns, numbers of few digits. reference 06: Inverse. Conditions: few rows and columns, numbers of few digits. matrix: Solve. Conditions: few rows, numbers of few digits. reference 06: Solve. Conditions: few rows and columns, numbers of few digits. reference 06: Null. Conditions: few rows and columns, numbers of few digits. What Solve and Null return, for law 06. Conditions: at most four rows and columns. -/
import Derived.Test.YtjbhcniiioepgaaGreatSvG
import Derived.Deep.DrawnRows
import Derived.Deep.LoopGhost
namespace Go.Proofs.YtjbhcniiioepgaaGreat
open Go.RowKit Go.Rep Go.Lim Go.Lin
attribute [local go_sem ↓] Go.wp_at_zero Go.wp_at_succ

/-- What the reference's elimination hands back. -/
def RedOut (X : Nat → Bool) (w : World) (S : Sr) (e : Ending) (w' : World) : Prop := Ext w w' ∧ ∃ oo co po pc uf, e = .returned (.tuple #[.slice oo S.1.length co, .slice po S.2.1.length pc, uf]) ∧ S.1.length ≤ co ∧ S.2.1.length ≤ pc ∧ Sl RC 1 (mk X w') oo S.1 ∧ Sl (NatIn .i64) 1 (mk X w') po S.2.1 ∧ QC (mk X w') uf S.2.2

set_option maxRecDepth 100000 in
set_option maxHeartbeats 1600000 in
theorem rreduce_any (X : Nat → Bool) (w : World) (u : Value) (m : List (List Rat)) (n c : Nat) (hX : HX X w) (hu : MV (mk X w) u m) (hsh : Shp n c m) (hc : colsL m = c) (hn : n ≤ 900) (hcc : c ≤ 900) (hT : TameR m c) : Calls Tryz.prog 94 #[u] w (RedOut X w (rN m c)) := by
  obtain ⟨W, hW, hEW, b0, hz⟩ := boxes1 w #[.bool false, .slice none 0 0, .slice none 0 0] 31
  have hX1 : HX (hidB X w.heap.size 1) W := hX.boxes hz
  have hu1 : MV (mk (hidB X w.heap.size 1) W) u m := MV.mono _ _ _ _ (le_boxes hEW) hu
  have htk := rmtakeO (hidB X w.heap.size 1) W u m hX1 hu1 (by rw [hsh.1]; omega) (fun r hr => by rw [hsh.2 r hr]; omega)
  have hml := hid hsh.1
  have hsh' := hid hsh
  have hn0 : Hid (n = 0 → c = 0) := hid fun h => by
    have : m = [] := List.eq_nil_of_length_eq_zero (by rw [hml.out]; exact h)
    rw [← hc, this]; rfl
  obtain ⟨B, hB6, hBj⟩ := hT
  have hBj' := hid hBj
  have hB6' := hid hB6
  have hunb : Hid (∀ w', Le (mk (hidB X w.heap.size 1) w') (mk X w')) := hid fun w' => le_unbox
  have hrb : Hid (hidB X w.heap.size 1 w.heap.size = true) := hid (hidB_in (Nat.le_refl _) (by omega))
  obtain ⟨X1, hX1e⟩ : ∃ X1, hidB X w.heap.size 1 = X1 := ⟨_, rfl⟩
  obtain ⟨b, hb⟩ : ∃ b, w.heap.size = b := ⟨_, rfl⟩
  rw [hX1e] at hX1 htk hunb hrb
  rw [hb] at b0 hrb
  have hbW : W.heap.size = b + 1 := by rw [← hb]; exact hz
  have hbw' : Hid (w.heap.size = b) := hid hb
  clear hu hu1 hX1e hz hb hsh hBj hB6
  go_enter Tryz.func94, Tryz.ntmps94
  go_wp2_with fail
  refine htk.mono ?_
  rintro e w1 ⟨hE1, oo, co, rfl, hO1⟩
  have hXu1 : HX (un X1 oo) w1 := hO1.unX (hX1.ext hE1)
  clear hW
  rw [hml.out]
  go_wp2_with fail
  refine (rqfrom (un X1 oo) w1 1 hXu1 (by decide) (by decide)).mono ?_
  rintro e w2 ⟨hE2, u2, rfl, hu2⟩
  obtain ⟨s2, a2, n2, c2, d2, k2, e2, rfl⟩ := hu2.shape
  have bf := Bx.new w2 #[.bool false, .slice none 0 0, .slice none 0 0] 31
  go_wp2_with ((with_reducible show wpList _ _ _ (⟨_, .store _ _ _, _, _, _, _⟩ :: _) _ _); refine st_storeBox stRat rfl rfl bf rfl rfl (one3 _ _ _ _ _ _ _) ?_; intro w3 r1 r2)
  have hE3 : Ext w2 w3 := ExtX.box ((ExtX.refl w2).alloc _) r2 (Nat.le_refl _)
  have hO2 := hO1.ext0 RC.elem hE2
  have hob2 : ∀ k, ob oo k = true → k < w2.heap.size := fun k hk => (hO2.block hk).2
  obtain ⟨fb, hfb⟩ : ∃ fb, w2.heap.size = fb := ⟨_, rfl⟩
  obtain ⟨base, hbase⟩ : ∃ base, W.heap.size = base := ⟨_, rfl⟩
  have hs1 := hE1.size
  have hs2 := hE2.size
  have hR0 : RS X1 w b fb base 33 31 3 w3 oo co none 0 m [] 1 := by
    subst hfb hbase
    refine ⟨hO2.ext RC.elem hE3 (fun k _ h => by simp [noY] at h) (fun k hk hz => ?_), OL.nil _ _ _ _ _ _, ⟨s2, a2, n2, c2, d2, k2, e2, r1, QC.mono _ _ _ _ (mk_over hE3 (fun k _ h => by simp [noY] at h) fun k hk hz => ?_) hu2⟩, hX1.ext (hE1.trans (hE2.trans hE3)), b0.ext0 (hE1.trans (hE2.trans hE3)), hrb.out, ?_, hEW.trans (hE1.trans (hE2.trans hE3)), ?_, ?_⟩
    · by_cases h : X1 k = true
      · exact h
      · have h' : X1 k = false := by simpa using h
        have : w2.heap.size = k := by simpa [un, hidF, ob, h'] using hz
        omega
    · by_cases h : un X1 oo k = true
      · exact h
      · have h' : un X1 oo k = false := by simpa using h
        obtain ⟨h1, h2⟩ := un_false h'
        have e1 : ob (none : Option Addr) k = false := rfl
        have e2 : ob (some ⟨w2.heap.size, 0, none⟩) k = (w2.heap.size == k) := rfl
        have : w2.heap.size = k := by simpa [un, hidZ, hidF, h1, h2, e1, e2] using hz
        omega
    · omega
    · have := hEW.size; omega
    · have := hEW.size; omega
  have hcap : n ≤ co := by have := hO1.lenCap; rw [hml.out] at this; exact this
  have hhO : Hd oo n := by have := hO1.hd; rw [hml.out] at this; exact this
  rw [hfb, hbw'.out]
  clear hO1 hO2 hob2 hu2 bf r1 r2 hE1 hE2 hE3 hs1 hs2 htk b0 hX1 hXu1 hEW hfb hbase hbW
  go_loopg [5, 7] c (fun g p k wr => ∃ (j : Nat) (po : Option Addr) (pc pl : Nat) (M : Mat) (P : List Nat) (f : Rat), k = .int .i64 j ∧ p = .slice po pl pc ∧ j + g = c ∧ Hid (P.length = pl) ∧ Hid (rN m j = (M, P, f)) ∧ RS X1 w b fb base 33 31 3 wr oo co po pc M P f)
  case atStart => exact ⟨0, none, 0, 0, m, [], 1, rfl, rfl, by omega, hid rfl, hid rfl, hR0⟩
  case round =>
    obtain ⟨j, po, pc, pl, M, P, f, rfl, rfl, hj, hpl, hst, hR⟩ := hrel
    have hok := rN_ok hsh'.out j
    rw [hst.out] at hok
    have hM := hid hok.shp
    have hMl : Hid (M.length = n) := hid hM.out.1
    have hpn : pl ≤ n := by have h1 : P.length ≤ n := hok.ref.le; rw [hpl.out] at h1; exact h1
    have hBM := hid (hBj'.out j (by omega))
    rw [hst.out] at hBM
    have hcolM : colsL M = c := colsL_shp hM.out hn0.out
    have hco := rcolumns (R := QC) (un (hidF X1 fb) po) wr (.slice oo n co) M ⟨oo, co, by rw [hMl.out], by rw [hMl.out]; exact hcap, hR.rows.sl RC.elem⟩
    rw [hcolM] at hco
    clear hok hcolM
    by_cases hlj : j < c
    · go_wp2_with fail
      refine hco.mono ?_
      rintro e w2 ⟨rfl, rfl⟩
      clear hco
      go_wp2_with fail
      go_loopw [9] (fun a wx => ∃ (t : Nat), a = .int .i64 t ∧ pl ≤ t ∧ t ≤ n ∧ Hid (∀ i, pl ≤ i → i < t → ent M i j = 0) ∧ RS X1 w b fb base 33 31 3 wx oo co po pc M P f) (fun a _ => n - (intOf a).toNat)
      case atStart => exact ⟨pl, rfl, Nat.le_refl _, hpn, hid (fun i h1 h2 => by omega), hR⟩
      case round =>
        clear hR
        obtain ⟨t, rfl, htl, htn, hzz, hR⟩ := hrel
        by_cases htt : t < n
        · have htM : t < M.length := by rw [hMl.out]; exact htt
          obtain ⟨a1, c1, k00, f00, hcl1, hq1⟩ := hR.row t htM
          have hrl : Hid (M[t].length = c) := hid (hM.out.2 _ (List.getElem_mem _))
          have hjr : j < M[t].length := by rw [hrl.out]; exact hlj
          have hei := hid (ent_at htM hjr)
          rw [hrl.out] at k00 hcl1
          have hh1 : Hd a1 c := by have := hq1.hd; rw [hrl.out] at this; exact this
          have hxB := hid (hBM.out.1 t j)
          have hZr := hR.hz
          obtain ⟨g9, o9, s5, a5, n5, c5, d5, k5, e5, hg9, hX9, hc9, hu5⟩ := hq1.rat QC.shaped j hjr
          rw [hei.out] at hu5
          obtain ⟨x, hx⟩ : ∃ x, ent M t j = x := ⟨_, rfl⟩
          rw [hx] at hei hxB hu5
          have hx' := hid hx
          obtain ⟨k10, k11, k12⟩ := hc9.out noY wr (ExtX.refl _) rfl
          have i1 : ∀ W, (Instr.indexAt 23 (.slice oo n co) (.int .i64 (t : Int))).run Tryz.prog W = .ok (.pointer (some (adr oo t))) W := run_ix1 slRats oo n co .i64 t hhO (by omega) rfl
          have i2 : ∀ W, (Instr.indexAt 33 (.slice a1 c c1) (.int .i64 (j : Int))).run Tryz.prog W = .ok (.pointer (some ⟨g9, o9, none⟩)) W := by rw [← hg9]; exact run_indexAt_adr slRat a1 c c1 .i64 j hh1 (by omega)
          clear hx f00 hc9 hg9 hX9
          by_cases h0 : x = 0
          · have hs0 : (x.num.sign == (0 : Int)) = true := by rw [h0]; rfl
            have hzz2 : Hid (∀ i, pl ≤ i → i < t + 1 → ent M i j = 0) := hid fun i h1 h2 => by
              by_cases e : i = t
              · subst e; rw [hx'.out]; exact h0
              · exact hzz.out i h1 (by omega)
            clear h0
            go_wp2_with fail
            refine (rqsign (hidZ X1 fb po oo) wr _ x hZr (hu5.qv (by have := hxB.out; have := hB6'.out; omega))).mono ?_
            rintro e w5 ⟨hE5, rfl⟩
            have hR5 := hR.ext0 hE5
            clear k00 k10 k11 k12 i1 i2
            go_wp2_with fail
            go_roundw
            case rel => exact ⟨t + 1, by go_num, by omega, by omega, hzz2, hR5⟩
            case measure => simp [intOf]; omega
          · have hs0 : (x.num.sign == (0 : Int)) = false := beqF (by intro h; exact h0 (Rat.num_eq_zero.1 (Int.sign_eq_zero_iff_zero.1 h)))
            have hx0 := hid h0
            have hne : ((t : Int) == (n : Int)) = false := beqF (by omega)
            clear h0
            go_wp2_with fail
            refine (rqsign (hidZ X1 fb po oo) wr _ x hZr (hu5.qv (by have := hxB.out; have := hB6'.out; omega))).mono ?_
            rintro e w5 ⟨hE5, rfl⟩
            have hR5 := hR.ext0 hE5
            clear k00 k10 k11 k12 i1 i2 hR hE5 hZr hq1 hu5 hh1
            go_upto_if 46 with (fail)
            have hplM : pl < M.length := by rw [hMl.out]; omega
            have hpn2 : pl < n := by omega
            have hsw := hid (swapL_set htM hplM)
            have hpiv : Hid (rN m (j + 1) = (out (pv (swapL M t pl) pl j) pl j n, P ++ [j], (if t - pl = 0 then f else - f) * ent (swapL M t pl) pl j)) := hid (by
              have e1 : pl + (t - pl) = t := by omega
              have := rN_piv hsh'.out hst.out hpl.out (a := t - pl) (by rw [e1]; exact hzz.out) (by omega) (by rw [e1, hx'.out]; exact hx0.out)
              rw [e1] at this; exact this)
            have hM1s := hid (hM.out.swap htt hpn2)
            have hB1s := hid (hBM.out.1.swap hM.out htt hpn2)
            have hp1 : Hid (ent (swapL M t pl) pl j ≠ 0) := hid (by rw [ent_swap hM.out htt hpn2, if_pos rfl, hx'.out]; exact hx0.out)
            have hfB := hid hBM.out.2
            clear hs0 hne hxB hx0 hei hcl1
            go_cut [] from 14 to 122 (fun wx => ∃ f1, Hid (f1 = if t - pl = 0 then f else - f) ∧ RS X1 w b fb base 33 31 3 wx oo co po pc (swapL M t pl) P f1)
            case first =>
              by_cases htp : t = pl
              · have hne2 : ((t : Int) != (pl : Int)) = false := bneF (by omega)
                have hRs : RS X1 w b fb base 33 31 3 w5 oo co po pc (swapL M t pl) P f := by rw [htp, swapL_self M pl hplM]; exact hR5
                have hff : Hid (f = if t - pl = 0 then f else - f) := hid (if_pos (by omega)).symm
                clear htp hR5
                go_wp2_with fail
                go_meet
                case rel => exact ⟨f, hff, hRs⟩
              · have hne2 : ((t : Int) != (pl : Int)) = true := bneT (by omega)
                have hff : Hid (- f = if t - pl = 0 then f else - f) := hid (if_neg (by omega)).symm
                obtain ⟨ap, cp, y1, fy1, hclp, hqp⟩ := hR5.row pl hplM
                obtain ⟨ax, cx, y2, fy2, hclx, hqx⟩ := hR5.row t htM
                obtain ⟨hO1, hE1⟩ := hR5.rows.set1 tyRats RC.elem SlV.one t htM (.slice ap M[pl].length cp) M[pl] ⟨ap, cp, rfl, hclp, hqp⟩
                obtain ⟨u3, k3, f3, hu3⟩ := hO1.cell SlV.one pl (by simpa using hplM)
                obtain ⟨hO2, hE2⟩ := hO1.set1 tyRats RC.elem SlV.one pl (by simpa using hplM) (.slice ax M[t].length cx) M[t] ⟨ax, cx, rfl, hclx, hqx.mono QC.mono (mk_mono hE1 fun k hk => un_right hk)⟩
                have hE6 := (hE1.trans hE2).drew
                have hO2 := hO2.ext0 RC.elem (ExtX.refl (Y := noY) _).drew
                rw [hsw.out] at hO2
                have hR6 := hR5.setRows hE6 hO2
                have i1 : ∀ W, (Instr.indexAt 23 (.slice oo n co) (.int .i64 (t : Int))).run Tryz.prog W = .ok (.pointer (some (adr oo t))) W := run_ix1 slRats oo n co .i64 t hhO (by omega) rfl
                have i2 : ∀ W, (Instr.indexAt 23 (.slice oo n co) (.int .i64 (pl : Int))).run Tryz.prog W = .ok (.pointer (some (adr oo pl))) W := run_ix1 slRats oo n co .i64 pl hhO (by omega) rfl
                clear htp hu3 hO1 hO2 hE1 hE2 hR5 hqp hqx
                go_wp2_with fail
                go_region
                obtain ⟨w6, hw6⟩ : ∃ w6, ((w5.setCell (adr oo t) (.slice ap M[pl].length cp)).setCell (adr oo pl) (.slice ax M[t].length cx)).drew = w6 := ⟨_, rfl⟩
                rw [hw6] at hR6 ⊢
                obtain ⟨sf, af, nf, cf, df, kf, ef, bF, hqF⟩ := hR6.fac
                have z0 := bF.cell 0 rfl
                have z1 := bF.cell 1 rfl
                have z2 := bF.cell 2 rfl
                have hZ6 := hR6.hz
                clear y1 y2 fy1 fy2 k3 f3 i1 i2 hw6 hE6
                go_wp2_with fail
                refine (rqneg (hidZ X1 fb po oo) w6 _ f hZ6 (hqF.qv (by have := hfB.out; have := hB6'.out; omega))).mono ?_
                rintro e w7 ⟨hE7, u7, rfl, hu7⟩
                obtain ⟨s7, a7, n7, c7, d7, k7, e7, rfl⟩ := hu7.shape
                have bF7 := bF.ext0 hE7
                have hR7 := hR6.ext0 hE7
                clear z0 z1 z2 bF
                go_wp2_with ((with_reducible show wpList _ _ _ (⟨_, .store _ _ _, _, _, _, _⟩ :: _) _ _); refine st_storeBox stRat rfl rfl bF7 rfl rfl (one3 _ _ _ _ _ _ _) ?_; intro w8 r1 r2)
                have hR8 := hR7.setFac r2 r1 (QC.mono _ _ _ _ (mk_mono r2 fun k hk => un_left (un_left (un_right hk))) hu7)
                go_meet
                case rel => exact ⟨- f, hff, hR8⟩
            case rest =>
              obtain ⟨f1, hf1, hR1⟩ := hcut
              rw [← hf1.out] at hpiv
              have hf1B : Hid (hq f1 ≤ B) := hid (by rw [hf1.out]; split; exact hfB.out; rw [hq_neg]; exact hfB.out)
              obtain ⟨w6, hw6⟩ : ∃ w6, w6 = wc := ⟨_, rfl⟩
              subst hw6
              obtain ⟨M1, hM1e⟩ : ∃ M1, swapL M t pl = M1 := ⟨_, rfl⟩
              rw [hM1e] at hpiv hM1s hB1s hp1 hR1
              have hM1l : Hid (M1.length = n) := hid hM1s.out.1
              have hpM1 : pl < M1.length := by rw [hM1l.out]; exact hpn2
              have hrl1 : Hid (M1[pl].length = c) := hid (hM1s.out.2 _ (List.getElem_mem _))
              have hjp : j < M1[pl].length := by rw [hrl1.out]; exact hlj
              have hei := hid (ent_at hpM1 hjp)
              have hxB := hid (hB1s.out pl j)
              have hpe : Hid (M1.getD pl [] = M1[pl]) := hid (getD_row' hpM1)
              obtain ⟨y, hy⟩ : ∃ y, ent M1 pl j = y := ⟨_, rfl⟩
              have hpvd : Hid (pv M1 pl j = M1.set pl (M1[pl].map (· * (((1 : Int) : Rat) / y)))) := hid (by unfold pv; rw [hpe.out, hy]; rfl)
              rw [hy] at hei hxB hp1 hpiv
              have hM2s := hid (hM1s.out.pv hpn2 j)
              have hB2s := hid (hB1s.out.pv hM1s.out hpn2 j)
              have hrowB : Hid (BR B M1[pl]) := hid (hb_bm hB1s.out _ (List.getElem_mem _))
              have i1 : ∀ W, (Instr.indexAt 23 (.slice oo n co) (.int .i64 (pl : Int))).run Tryz.prog W = .ok (.pointer (some (adr oo pl))) W := run_ix1 slRats oo n co .i64 pl hhO (by omega) rfl
              have hEd : Ext w6 w6.drew := (ExtX.refl w6).drew
              clear hR5 hM1e hy hx' hsw
              go_upto_region 15 with (fail)
              go_cut [] from 14 to 122 (fun wx => RS X1 w b fb base 33 31 3 wx oo co po pc M1 P (f1 * y))
              case first =>
                obtain ⟨ap, cp, y1, fy1, hclp, hqp⟩ := hR1.row pl hpM1
                obtain ⟨g, o, s5, a5, n5, c5, d5, k5, e5, hg, hXg, hcg, hqg⟩ := hqp.rat QC.shaped j hjp
                obtain ⟨sf, af, nf, cf, df, kf, ef, bF, hqF⟩ := hR1.fac
                rw [hei.out] at hqg
                rw [hrl1.out] at y1 hclp
                have hhp : Hd ap c := by have := hqp.hd; rw [hrl1.out] at this; exact this
                have i2 : ∀ W, (Instr.indexAt 33 (.slice ap c cp) (.int .i64 (j : Int))).run Tryz.prog W = .ok (.pointer (some ⟨g, o, none⟩)) W := by rw [← hg]; exact run_indexAt_adr slRat ap c cp .i64 j hhp (by omega)
                have bFd := bF.ext0 hEd
                have z0 := bFd.cell 0 rfl
                have z1 := bFd.cell 1 rfl
                have z2 := bFd.cell 2 rfl
                obtain ⟨k0, k1, k2⟩ := hcg.out noY w6.drew hEd rfl
                have y1d : w6.drew.cell? (adr oo pl) = some (.slice ap c cp) := y1
                have hRd := hR1.ext0 hEd
                have hZd := hRd.hz
                have hqFv : QV (mk (hidZ X1 fb po oo) w6.drew) (.agg #[.bool sf, .slice af nf cf, .slice df kf ef]) f1 := hqF.qv (by have := hf1B.out; have := hB6'.out; omega)
                have hqgv : QV (mk (hidZ X1 fb po oo) w6.drew) (.agg #[.bool s5, .slice a5 n5 c5, .slice d5 k5 e5]) y := hqg.qv (by have := hxB.out; have := hB6'.out; omega)
                clear hqp hg hcg hR1 y1 fy1 bF
                go_wp2_with fail
                go_region_with ((go_at_call 57; (with_reducible refine (rqmul (hidZ X1 fb po oo) w6.drew _ _ f1 y hZd hqFv hqgv).mono ?_); rintro ee w7 ⟨t1, u7, rfl, hu7⟩; obtain ⟨s7, a7, n7, c7, d7, k7, e7, rfl⟩ := hu7.shape; have bF7 := bFd.ext0 t1; have g0 := bF7.cell 0 rfl; have g1 := bF7.cell 1 rfl; have g2 := bF7.cell 2 rfl; have h0 := bF7.frozen 0; have h1 := bF7.frozen 1; have h2 := bF7.frozen 2))
                all_goals
                  obtain ⟨q1, q2⟩ := bF7.set3 (.bool s7) (.slice a7 n7 c7) (.slice d7 k7 e7)
                  have hR8 := (hRd.ext0 t1).setFac q2 q1 (QC.mono _ _ _ _ (mk_mono q2 fun k hk => un_left (un_left (un_right hk))) hu7)
                  clear z0 z1 z2 k0 k1 k2 y1d g0 g1 g2 h0 h1 h2 i2
                  go_wp2_with fail
                  go_meet
                  case rel => exact hR8
              case rest =>
                have hf2B : Hid (hq (f1 * y) ≤ 2 * B) := hid (by have := hq_mul f1 y; have := hf1B.out; have := hxB.out; omega)
                obtain ⟨f2, hf2⟩ : ∃ f2, f1 * y = f2 := ⟨_, rfl⟩
                rw [hf2] at hf2B hcut hpiv
                clear hR1 hEd hf2
                obtain ⟨w7, hw7⟩ : ∃ w7, w7 = wc := ⟨_, rfl⟩
                subst hw7
                have hR2 := hcut
                have hEd : Ext w7 w7.drew := (ExtX.refl w7).drew
                clear hcut
                go_upto_region 16 with (fail)
                go_cut [] from 14 to 122 (fun wx => RS X1 w b fb base 33 31 3 wx oo co po pc (pv M1 pl j) P f2)
                case first =>
                  obtain ⟨ap, cp, y1, fy1, hclp, hqp⟩ := hR2.row pl hpM1
                  obtain ⟨g, o, s5, a5, n5, c5, d5, k5, e5, hg, hXg, hcg, hqg⟩ := hqp.rat QC.shaped j hjp
                  rw [hei.out] at hqg
                  have hhp : Hd ap c := by have := hqp.hd; rw [hrl1.out] at this; exact this
                  have i2 : ∀ W, (Instr.indexAt 33 (.slice ap c cp) (.int .i64 (j : Int))).run Tryz.prog W = .ok (.pointer (some ⟨g, o, none⟩)) W := by rw [← hg]; exact run_indexAt_adr slRat ap c cp .i64 j hhp (by omega)
                  have hrp : RV (mk (hidZ X1 fb po oo) w7.drew) (.slice ap c cp) M1[pl] := by
                    rw [← hrl1.out]
                    exact ⟨ap, cp, rfl, hclp, hqp.qv fun q hq => Nat.le_trans (hrowB.out q hq) (by have := hB6'.out; omega)⟩
                  rw [hrl1.out] at y1 hclp
                  have hS : Hid (∀ W', Ext w7.drew W' → W'.cell? (adr oo pl) = some (.slice ap c cp) ∧ W'.cell? ⟨g, o, none⟩ = some (.bool s5) ∧ W'.cell? ⟨g, o + 1, none⟩ = some (.slice a5 n5 c5) ∧ W'.cell? ⟨g, o + 2, none⟩ = some (.slice d5 k5 e5)) := hid fun W' h => by
                    obtain ⟨k0, k1, k2⟩ := hcg.out noY W' (hEd.trans h) rfl
                    exact ⟨(hEd.trans h).cell y1, k0, k1, k2⟩
                  obtain ⟨y1d, k0, k1, k2⟩ := hS.out w7.drew (ExtX.refl _)
                  have hRd := hR2.ext0 hEd
                  have hZd := hRd.hz
                  have hqgv : QV (mk (hidZ X1 fb po oo) w7.drew) (.agg #[.bool s5, .slice a5 n5 c5, .slice d5 k5 e5]) y := hqg.qv (by have := hxB.out; have := hB6'.out; omega)
                  have h1q : Hid (hq (((1 : Int) : Rat)) ≤ 68719476736) := hid (by decide +kernel)
                  have hqb : Hid (hq (((1 : Int) : Rat) / y) ≤ 68719476736) := hid (by have h3 := hq_div ((1 : Int) : Rat) y; have h4 : hq (((1 : Int) : Rat)) = 1 := (by decide +kernel); have := hxB.out; have := hB6'.out; have := hq_pos y; omega)
                  have hrl3 : Hid (M1[pl].length ≤ 1000000) := hid (by rw [hrl1.out]; omega)
                  clear hqp hg hcg hR2 y1 fy1
                  go_wp2_with fail
                  refine wp_region_K 17 (fun w' => w'.cell? (adr oo pl) = some (.slice ap c cp) ∧ w'.cell? ⟨g, o, none⟩ = some (.bool s5) ∧ w'.cell? ⟨g, o + 1, none⟩ = some (.slice a5 n5 c5) ∧ w'.cell? ⟨g, o + 2, none⟩ = some (.slice d5 k5 e5)) (by kernel_rfl) (by kernel_rfl) (hS.out _ (ExtX.refl _)) (fun hHeld hOnce => ?_)
                  clear y1d k0 k1 k2
                  refine wpAnyK_take hOnce (i := 0) (oi := ⟨_, _, _, _, _, _⟩) (v := ?_) rfl (by kernel_rfl) (fun _ _ _ h => h) (by assumption) (by rfl) (fun w hSw => ?_) ?_
                  rotate_left
                  · (try dsimp only at hSw)
                    go_simp
                    all_goals with_reducible rfl
                  (try simp only [Act.put, List.setIfInBounds_toArray, List.set_cons_zero, List.set_cons_succ])
                  refine wpAnyK_take hOnce (i := 1) (oi := ⟨_, _, _, _, _, _⟩) (v := ?_) rfl (by kernel_rfl) (fun _ _ _ h => h) (by assumption) (by rfl) (fun w hSw => ?_) ?_
                  rotate_left
                  · (try dsimp only at hSw)
                    go_simp
                    all_goals with_reducible rfl
                  (try simp only [Act.put, List.setIfInBounds_toArray, List.set_cons_zero, List.set_cons_succ])
                  refine wpAnyK_take hOnce (i := 2) (oi := ⟨_, _, _, _, _, _⟩) (v := ?_) rfl (by kernel_rfl) (fun _ _ _ h => h) (by assumption) (by rfl) (fun w hSw => ?_) ?_
                  rotate_left
                  · (try dsimp only at hSw)
                    go_simp
                    all_goals with_reducible rfl
                  (try simp only [Act.put, List.setIfInBounds_toArray, List.set_cons_zero, List.set_cons_succ])
                  refine wpAnyK_take hOnce (i := 3) (oi := ⟨_, _, _, _, _, _⟩) (v := ?_) rfl (by kernel_rfl) (fun _ _ _ h => h) (by assumption) (by rfl) (fun w hSw => ?_) ?_
                  rotate_left
                  · (try dsimp only at hSw)
                    go_simp
                    all_goals with_reducible rfl
                  (try simp only [Act.put, List.setIfInBounds_toArray, List.set_cons_zero, List.set_cons_succ])
                  refine wpAnyK_take hOnce (i := 4) (oi := ⟨_, _, _, _, _, _⟩) (v := ?_) rfl (by kernel_rfl) (fun _ _ _ h => h) (by assumption) (by rfl) (fun w hSw => ?_) ?_
                  rotate_left
                  · (try dsimp only at hSw)
                    go_simp
                    all_goals with_reducible rfl
                  (try simp only [Act.put, List.setIfInBounds_toArray, List.set_cons_zero, List.set_cons_succ])
                  refine wpAnyK_take hOnce (i := 5) (oi := ⟨_, _, _, _, _, _⟩) (v := ?_) rfl (by kernel_rfl) (fun _ _ _ h => h) (by assumption) (by rfl) (fun w hSw => ?_) ?_
                  rotate_left
                  · (try dsimp only at hSw)
                    go_simp
                    all_goals with_reducible rfl
                  (try simp only [Act.put, List.setIfInBounds_toArray, List.set_cons_zero, List.set_cons_succ])
                  refine wpAnyK_take hOnce (i := 7) (oi := ⟨_, _, _, _, _, _⟩) (v := ?_) rfl (by kernel_rfl) (fun _ _ _ h => h) (by assumption) (by rfl) (fun w hSw => ?_) ?_
                  rotate_left
                  · (try dsimp only at hSw)
                    go_simp
                    all_goals with_reducible rfl
                  (try simp only [Act.put, List.setIfInBounds_toArray, List.set_cons_zero, List.set_cons_succ])
                  refine wpAnyK_take hOnce (i := 8) (oi := ⟨_, _, _, _, _, _⟩) (v := ?_) rfl (by kernel_rfl) (fun _ _ _ h => h) (by assumption) (by rfl) (fun w hSw => ?_) ?_
                  rotate_left
                  · (try dsimp only at hSw)
                    go_simp
                    all_goals with_reducible rfl
                  (try simp only [Act.put, List.setIfInBounds_toArray, List.set_cons_zero, List.set_cons_succ])
                  refine wpAnyK_take hOnce (i := 9) (oi := ⟨_, _, _, _, _, _⟩) (v := ?_) rfl (by kernel_rfl) (fun _ _ _ h => h) (by assumption) (by rfl) (fun w hSw => ?_) ?_
                  rotate_left
                  · (try dsimp only at hSw)
                    go_simp
                    all_goals with_reducible rfl
                  (try simp only [Act.put, List.setIfInBounds_toArray, List.set_cons_zero, List.set_cons_succ])
                  refine wpAnyK_take hOnce (i := 10) (oi := ⟨_, _, _, _, _, _⟩) (v := ?_) rfl (by kernel_rfl) (fun _ _ _ h => h) (by assumption) (by rfl) (fun w hSw => ?_) ?_
                  rotate_left
                  · (try dsimp only at hSw)
                    go_simp
                    all_goals with_reducible rfl
                  (try simp only [Act.put, List.setIfInBounds_toArray, List.set_cons_zero, List.set_cons_succ])
                  refine wpAnyK_take hOnce (i := 11) (oi := ⟨_, _, _, _, _, _⟩) (v := ?_) rfl (by kernel_rfl) (fun _ _ _ h => h) (by assumption) (by rfl) (fun w hSw => ?_) ?_
                  rotate_left
                  · (try dsimp only at hSw)
                    go_simp
                    all_goals with_reducible rfl
                  (try simp only [Act.put, List.setIfInBounds_toArray, List.set_cons_zero, List.set_cons_succ])
                  refine wpAnyK_take hOnce (i := 12) (oi := ⟨_, _, _, _, _, _⟩) (v := ?_) rfl (by kernel_rfl) (fun _ _ _ h => h) (by assumption) (by rfl) (fun w hSw => ?_) ?_
                  rotate_left
                  · (try dsimp only at hSw)
                    go_simp
                    all_goals with_reducible rfl
                  (try simp only [Act.put, List.setIfInBounds_toArray, List.set_cons_zero, List.set_cons_succ])
                  refine wpAnyK_take hOnce (i := 13) (oi := ⟨_, _, _, _, _, _⟩) (v := ?_) rfl (by kernel_rfl) (fun _ _ _ h => h) (by assumption) (by rfl) (fun w hSw => ?_) ?_
                  rotate_left
                  · (try dsimp only at hSw)
                    go_simp
                    all_goals with_reducible rfl
                  (try simp only [Act.put, List.setIfInBounds_toArray, List.set_cons_zero, List.set_cons_succ])
                  refine wpAnyK_step (i := 6) (o := ⟨_, _, _, _, _, _⟩) (by kernel_rfl) rfl (fun K hK => ?_)
                  go_simp
                  (go_at_call 61; (with_reducible refine (rqfrom (hidZ X1 fb po oo) w7.drew 1 hZd (by decide) (by decide)).mono ?_); rintro ee w8 ⟨t1, u8, rfl, hu8⟩)
                  refine hK.out _ _ (hS.out w8 t1) (fun hHeld => ?_)
                  clear hK K
                  (try simp only [Act.put, List.setIfInBounds_toArray, List.set_cons_zero, List.set_cons_succ])
                  obtain ⟨s8, a8, n8, c8, d8, k8, e8, rfl⟩ := hu8.shape
                  have hX8 := hZd.ext t1
                  have hx8 := mkx QV.mono hqgv t1
                  have hu8v := hu8.qv h1q.out
                  refine wpAnyK_step (i := 14) (o := ⟨_, _, _, _, _, _⟩) (by kernel_rfl) rfl (fun K hK => ?_)
                  go_simp
                  (go_at_call 146; (with_reducible refine (rqquo (hidZ X1 fb po oo) w8 _ _ _ y hX8 hu8v hx8 hp1.out).mono ?_); rintro ee w9 ⟨t2, u9, rfl, hu9⟩)
                  refine hK.out _ _ (hS.out w9 (t1.trans t2)) (fun hHeld => ?_)
                  clear hK K
                  (try simp only [Act.put, List.setIfInBounds_toArray, List.set_cons_zero, List.set_cons_succ])
                  obtain ⟨s9, a9, n9, c9, d9, k9, e9, rfl⟩ := hu9.shape
                  have t12 := t1.trans t2
                  have hX9 := hZd.ext t12
                  have hr9 := mkx RV.mono hrp t12
                  have hu9v := hu9.qv hqb.out
                  refine wpAnyK_step (i := 15) (o := ⟨_, _, _, _, _, _⟩) (by kernel_rfl) rfl (fun K hK => ?_)
                  go_simp
                  (go_at_call 20; (with_reducible refine (rtimes (hidZ X1 fb po oo) w9 _ _ _ _ hX9 hr9 hu9v hrl3.out).mono ?_); rintro ee w10 ⟨t3, u10, rfl, hu10⟩)
                  refine hK.out _ _ (hS.out w10 (t12.trans t3)) (fun hHeld => ?_)
                  clear hK K
                  (try simp only [Act.put, List.setIfInBounds_toArray, List.set_cons_zero, List.set_cons_succ])
                  obtain ⟨a10, c10, rfl, hcl10, hs10⟩ := hu10
                  have t13 := t12.trans t3
                  have hR10 := hRd.ext0 t13
                  obtain ⟨_, _, p0, fz, _, _⟩ := hR10.row pl hpM1
                  refine wpAnyK_take hOnce (i := 16) (oi := ⟨_, _, _, _, _, _⟩) (v := ?_) rfl (by kernel_rfl) (fun _ _ _ h => h) (by assumption) (by rfl) (fun w hSw => ?_) ?_
                  rotate_left
                  · (try dsimp only at hSw)
                    go_simp
                    all_goals with_reducible rfl
                  (try simp only [Act.put, List.setIfInBounds_toArray, List.set_cons_zero, List.set_cons_succ])
                  refine wpAnyK_last (i := 17) (o := ⟨_, _, _, _, _, _⟩) (by kernel_rfl) rfl (by decide) (by kernel_rfl) (fun K hK => ?_)
                  go_simp
                  refine hK.out _ _ ?_
                  clear hK K
                  obtain ⟨hO11, hE11⟩ := hR10.rows.set1 tyRats RC.elem SlV.one pl hpM1 (.slice a10 M1[pl].length c10) (M1[pl].map (· * (((1 : Int) : Rat) / y))) ⟨a10, c10, by rw [List.length_map], hcl10, hs10⟩
                  have hR11 := hR10.setRows hE11 hO11
                  have hR12 := hR11
                  rw [← hpvd.out] at hR12
                  clear p0 fz i2 hO11 hE11 hR11 hHeld hOnce
                  go_wp2_with fail
                  go_meet
                  case rel => exact hR12
                case rest =>
                  have hR3 := hcut
                  clear hcut hR2 hEd i1
                  obtain ⟨w8, hw8⟩ : ∃ w8, w8 = wc := ⟨_, rfl⟩
                  subst hw8
                  obtain ⟨M2, hM2e⟩ : ∃ M2, pv M1 pl j = M2 := ⟨_, rfl⟩
                  rw [hM2e] at hR3 hpiv hM2s hB2s
                  have hM2l : Hid (M2.length = n) := hid hM2s.out.1
                  have hR4 : RS X1 w b fb base 33 31 3 w8 oo co po pc (out M2 pl j 0) P f2 := by rw [out_zero]; exact hR3
                  have hbm2 := hid (hb_bm hB2s.out)
                  have hb0 : Hid (∀ wx, OL RC 1 (un (hidF X1 fb) po) base 33 wx oo co (out M2 pl j n) → base ≤ wx.heap.size) := hid fun wx h => by
                    obtain ⟨b0, o0, hb0⟩ := hhO (by omega)
                    have := h.block (k := b0) (by rw [hb0]; simp [ob])
                    omega
                  have i1 : ∀ W, (Instr.indexAt 23 (.slice oo n co) (.int .i64 (pl : Int))).run Tryz.prog W = .ok (.pointer (some (adr oo pl))) W := run_ix1 slRats oo n co .i64 pl hhO (by omega) rfl
                  clear hM2e hR3 hjp hrl1 hei hxB hpvd hrowB hp1
                  go_wp2_with fail
                  go_loopw [10] (fun a wx => ∃ (i : Nat), a = .int .i64 i ∧ i ≤ n ∧ RS X1 w b fb base 33 31 3 wx oo co po pc (out M2 pl j i) P f2) (fun a _ => n - (intOf a).toNat)
                  case atStart => exact ⟨0, rfl, Nat.zero_le _, hR4⟩
                  case round =>
                    clear hR4
                    obtain ⟨i, rfl, hi, hR⟩ := hrel
                    by_cases hlt : i < n
                    · by_cases hip : i = pl
                      · have hne3 : ((i : Int) != (pl : Int)) = false := bneF (by omega)
                        have hRn : RS X1 w b fb base 33 31 3 wr oo co po pc (out M2 pl j (i + 1)) P f2 := by subst hip; rw [← out_skip]; exact hR
                        clear hip hR
                        go_wp2_with fail
                        go_roundw
                        case rel => exact ⟨i + 1, by go_num, by omega, hRn⟩
                        case measure => simp [intOf]; omega
                      · have hne3 : ((i : Int) != (pl : Int)) = true := bneT (by omega)
                        have hiM : i < M2.length := by rw [hM2l.out]; exact hlt
                        have hpM : pl < M2.length := by rw [hM2l.out]; exact hpn2
                        have hiO : i < (out M2 pl j i).length := by rw [out_len]; exact hiM
                        have hpO : pl < (out M2 pl j i).length := by rw [out_len]; exact hpM
                        have hgi : (out M2 pl j i)[i] = M2[i] := by rw [out_get hiO hiM, if_neg (by omega)]
                        have hgp : (out M2 pl j i)[pl] = M2[pl] := by rw [out_get hpO hpM, if_neg (by omega)]
                        have hset := hid (out_set (m := M2) (t := pl) (col := j) hiM hip)
                        rw [getD_row' hpM] at hset
                        obtain ⟨ai, ci, y1, fy1, hcli, hqi⟩ := hR.row i hiO
                        obtain ⟨ap, cp, y2, fy2, hclp, hqp⟩ := hR.row pl hpO
                        rw [hgi] at y1 hcli hqi
                        rw [hgp] at y2 hclp hqp
                        have hrli : Hid (M2[i].length = c) := hid (hM2s.out.2 _ (List.getElem_mem _))
                        have hrlp : Hid (M2[pl].length = c) := hid (hM2s.out.2 _ (List.getElem_mem _))
                        have hBi := hid (hbm2.out M2[i] (List.getElem_mem _))
                        have hBp := hid (hbm2.out M2[pl] (List.getElem_mem _))
                        have hji : j < M2[i].length := by rw [hrli.out]; exact hlj
                        obtain ⟨g, o, s5, a5, n5, c5, d5, k5, e5, hg, hXg, hcg, hqg⟩ := hqi.rat QC.shaped j hji
                        have hvv : M2[i].getD j 0 = M2[i][j] := by rw [List.getD_eq_getElem?_getD, List.getElem?_eq_getElem hji]; rfl
                        rw [hvv] at hset
                        have hvB := hid (hBi.out M2[i][j] (List.getElem_mem _))
                        obtain ⟨v, hv⟩ : ∃ v, M2[i][j] = v := ⟨_, rfl⟩
                        rw [hv] at hset hqg hvB
                        clear hv hvv hgi hgp
                        obtain ⟨row, hrow⟩ : ∃ row, M2[i] = row := ⟨_, rfl⟩
                        rw [hrow] at hset hqi y1 hcli hrli hBi
                        obtain ⟨piv, hpv⟩ : ∃ piv, M2[pl] = piv := ⟨_, rfl⟩
                        rw [hpv] at hset hqp y2 hclp hrlp hBp
                        have hhi : Hd ai c := by have := hqi.hd; rw [hrli.out] at this; exact this
                        have hEd : Ext wr wr.drew := (ExtX.refl wr).drew
                        have i2 : ∀ W, (Instr.indexAt 33 (.slice ai c ci) (.int .i64 (j : Int))).run Tryz.prog W = .ok (.pointer (some ⟨g, o, none⟩)) W := by rw [← hg]; exact run_indexAt_adr slRat ai c ci .i64 j hhi (by omega)
                        have i3 : ∀ W, (Instr.indexAt 23 (.slice oo n co) (.int .i64 (i : Int))).run Tryz.prog W = .ok (.pointer (some (adr oo i))) W := run_ix1 slRats oo n co .i64 i hhO (by omega) rfl
                        have hri : RV (mk (hidZ X1 fb po oo) wr.drew) (.slice ai c ci) row := by
                          rw [← hrli.out]
                          exact ⟨ai, ci, rfl, hcli, hqi.qv fun q hq => Nat.le_trans (hBi.out q hq) (by have := hB6'.out; omega)⟩
                        have hrp : RV (mk (hidZ X1 fb po oo) wr.drew) (.slice ap c cp) piv := by
                          rw [← hrlp.out]
                          exact ⟨ap, cp, rfl, hclp, hqp.qv fun q hq => Nat.le_trans (hBp.out q hq) (by have := hB6'.out; omega)⟩
                        rw [hrli.out] at y1
                        rw [hrlp.out] at y2
                        have hS : Hid (∀ W', Ext wr.drew W' → W'.cell? (adr oo i) = some (.slice ai c ci) ∧ W'.cell? (adr oo pl) = some (.slice ap c cp) ∧ W'.cell? ⟨g, o, none⟩ = some (.bool s5) ∧ W'.cell? ⟨g, o + 1, none⟩ = some (.slice a5 n5 c5) ∧ W'.cell? ⟨g, o + 2, none⟩ = some (.slice d5 k5 e5)) := hid fun W' h => by
                          obtain ⟨k0, k1, k2⟩ := hcg.out noY W' (hEd.trans h) rfl
                          exact ⟨(hEd.trans h).cell y1, (hEd.trans h).cell y2, k0, k1, k2⟩
                        obtain ⟨y1d, y2d, k0, k1, k2⟩ := hS.out wr.drew (ExtX.refl _)
                        have hRd := hR.ext0 hEd
                        have hZd := hRd.hz
                        have hqgv : QV (mk (hidZ X1 fb po oo) wr.drew) (.agg #[.bool s5, .slice a5 n5 c5, .slice d5 k5 e5]) v := hqg.qv (by have := hvB.out; have := hB6'.out; omega)
                        have hnb : Hid (hq (-v) ≤ 68719476736) := hid (by rw [hq_neg]; have := hvB.out; have := hB6'.out; omega)
                        have hprod : Hid (BR 68719476736 (piv.map (· * -v))) := hid fun q hq => by
                          obtain ⟨x, hx, rfl⟩ := List.mem_map.1 hq
                          have h1 := hBp.out x hx
                          have h2 := hq_mul x (-v)
                          rw [hq_neg] at h2
                          have := hvB.out; have := hB6'.out; omega
                        have hl1 : Hid (piv.length ≤ 1000000) := hid (by rw [hrlp.out]; omega)
                        have hl2 : Hid (row.length ≤ 1000000) := hid (by rw [hrli.out]; omega)
                        have hl3 : Hid ((piv.map (· * -v)).length = row.length) := hid (by rw [List.length_map, hrlp.out, hrli.out])
                        have hiO' := hid hiO
                        obtain ⟨PR, hPR⟩ : ∃ PR, piv.map (· * -v) = PR := ⟨_, rfl⟩
                        have hPR' := hid hPR
                        rw [hPR] at hset hprod hl3
                        obtain ⟨NR, hNR⟩ : ∃ NR, List.zipWith (· + ·) row PR = NR := ⟨_, rfl⟩
                        have hNR' := hid hNR
                        rw [hNR] at hset
                        clear hqi hqp hg hcg hR y1 fy1 y2 fy2 hrow hpv hip hiM hpM hpO hqg hiO hji hcli hclp hPR hNR
                        go_wp2_with fail
                        refine wp_region_K 21 (fun w' => w'.cell? (adr oo i) = some (.slice ai c ci) ∧ w'.cell? (adr oo pl) = some (.slice ap c cp) ∧ w'.cell? ⟨g, o, none⟩ = some (.bool s5) ∧ w'.cell? ⟨g, o + 1, none⟩ = some (.slice a5 n5 c5) ∧ w'.cell? ⟨g, o + 2, none⟩ = some (.slice d5 k5 e5)) (by kernel_rfl) (by kernel_rfl) (hS.out _ (ExtX.refl _)) (fun hHeld hOnce => ?_)
                        clear y1d y2d k0 k1 k2
                        refine wpAnyK_take hOnce (i := 0) (oi := ⟨_, _, _, _, _, _⟩) (v := ?_) rfl (by kernel_rfl) (fun _ _ _ h => h) (by assumption) (by rfl) (fun w hSw => ?_) ?_
                        rotate_left
                        · (try dsimp only at hSw)
                          go_simp
                          all_goals with_reducible rfl
                        (try simp only [Act.put, List.setIfInBounds_toArray, List.set_cons_zero, List.set_cons_succ])
                        refine wpAnyK_take hOnce (i := 1) (oi := ⟨_, _, _, _, _, _⟩) (v := ?_) rfl (by kernel_rfl) (fun _ _ _ h => h) (by assumption) (by rfl) (fun w hSw => ?_) ?_
                        rotate_left
                        · (try dsimp only at hSw)
                          go_simp
                          all_goals with_reducible rfl
                        (try simp only [Act.put, List.setIfInBounds_toArray, List.set_cons_zero, List.set_cons_succ])
                        refine wpAnyK_take hOnce (i := 2) (oi := ⟨_, _, _, _, _, _⟩) (v := ?_) rfl (by kernel_rfl) (fun _ _ _ h => h) (by assumption) (by rfl) (fun w hSw => ?_) ?_
                        rotate_left
                        · (try dsimp only at hSw)
                          go_simp
                          all_goals with_reducible rfl
                        (try simp only [Act.put, List.setIfInBounds_toArray, List.set_cons_zero, List.set_cons_succ])
                        refine wpAnyK_take hOnce (i := 3) (oi := ⟨_, _, _, _, _, _⟩) (v := ?_) rfl (by kernel_rfl) (fun _ _ _ h => h) (by assumption) (by rfl) (fun w hSw => ?_) ?_
                        rotate_left
                        · (try dsimp only at hSw)
                          go_simp
                          all_goals with_reducible rfl
                        (try simp only [Act.put, List.setIfInBounds_toArray, List.set_cons_zero, List.set_cons_succ])
                        refine wpAnyK_take hOnce (i := 4) (oi := ⟨_, _, _, _, _, _⟩) (v := ?_) rfl (by kernel_rfl) (fun _ _ _ h => h) (by assumption) (by rfl) (fun w hSw => ?_) ?_
                        rotate_left
                        · (try dsimp only at hSw)
                          go_simp
                          all_goals with_reducible rfl
                        (try simp only [Act.put, List.setIfInBounds_toArray, List.set_cons_zero, List.set_cons_succ])
                        refine wpAnyK_take hOnce (i := 5) (oi := ⟨_, _, _, _, _, _⟩) (v := ?_) rfl (by kernel_rfl) (fun _ _ _ h => h) (by assumption) (by rfl) (fun w hSw => ?_) ?_
                        rotate_left
                        · (try dsimp only at hSw)
                          go_simp
                          all_goals with_reducible rfl
                        (try simp only [Act.put, List.setIfInBounds_toArray, List.set_cons_zero, List.set_cons_succ])
                        refine wpAnyK_take hOnce (i := 6) (oi := ⟨_, _, _, _, _, _⟩) (v := ?_) rfl (by kernel_rfl) (fun _ _ _ h => h) (by assumption) (by rfl) (fun w hSw => ?_) ?_
                        rotate_left
                        · (try dsimp only at hSw)
                          go_simp
                          all_goals with_reducible rfl
                        (try simp only [Act.put, List.setIfInBounds_toArray, List.set_cons_zero, List.set_cons_succ])
                        refine wpAnyK_take hOnce (i := 7) (oi := ⟨_, _, _, _, _, _⟩) (v := ?_) rfl (by kernel_rfl) (fun _ _ _ h => h) (by assumption) (by rfl) (fun w hSw => ?_) ?_
                        rotate_left
                        · (try dsimp only at hSw)
                          go_simp
                          all_goals with_reducible rfl
                        (try simp only [Act.put, List.setIfInBounds_toArray, List.set_cons_zero, List.set_cons_succ])
                        refine wpAnyK_take hOnce (i := 8) (oi := ⟨_, _, _, _, _, _⟩) (v := ?_) rfl (by kernel_rfl) (fun _ _ _ h => h) (by assumption) (by rfl) (fun w hSw => ?_) ?_
                        rotate_left
                        · (try dsimp only at hSw)
                          go_simp
                          all_goals with_reducible rfl
                        (try simp only [Act.put, List.setIfInBounds_toArray, List.set_cons_zero, List.set_cons_succ])
                        refine wpAnyK_take hOnce (i := 9) (oi := ⟨_, _, _, _, _, _⟩) (v := ?_) rfl (by kernel_rfl) (fun _ _ _ h => h) (by assumption) (by rfl) (fun w hSw => ?_) ?_
                        rotate_left
                        · (try dsimp only at hSw)
                          go_simp
                          all_goals with_reducible rfl
                        (try simp only [Act.put, List.setIfInBounds_toArray, List.set_cons_zero, List.set_cons_succ])
                        refine wpAnyK_take hOnce (i := 10) (oi := ⟨_, _, _, _, _, _⟩) (v := ?_) rfl (by kernel_rfl) (fun _ _ _ h => h) (by assumption) (by rfl) (fun w hSw => ?_) ?_
                        rotate_left
                        · (try dsimp only at hSw)
                          go_simp
                          all_goals with_reducible rfl
                        (try simp only [Act.put, List.setIfInBounds_toArray, List.set_cons_zero, List.set_cons_succ])
                        refine wpAnyK_take hOnce (i := 11) (oi := ⟨_, _, _, _, _, _⟩) (v := ?_) rfl (by kernel_rfl) (fun _ _ _ h => h) (by assumption) (by rfl) (fun w hSw => ?_) ?_
                        rotate_left
                        · (try dsimp only at hSw)
                          go_simp
                          all_goals with_reducible rfl
                        (try simp only [Act.put, List.setIfInBounds_toArray, List.set_cons_zero, List.set_cons_succ])
                        refine wpAnyK_take hOnce (i := 12) (oi := ⟨_, _, _, _, _, _⟩) (v := ?_) rfl (by kernel_rfl) (fun _ _ _ h => h) (by assumption) (by rfl) (fun w hSw => ?_) ?_
                        rotate_left
                        · (try dsimp only at hSw)
                          go_simp
                          all_goals with_reducible rfl
                        (try simp only [Act.put, List.setIfInBounds_toArray, List.set_cons_zero, List.set_cons_succ])
                        refine wpAnyK_take hOnce (i := 13) (oi := ⟨_, _, _, _, _, _⟩) (v := ?_) rfl (by kernel_rfl) (fun _ _ _ h => h) (by assumption) (by rfl) (fun w hSw => ?_) ?_
                        rotate_left
                        · (try dsimp only at hSw)
                          go_simp
                          all_goals with_reducible rfl
                        (try simp only [Act.put, List.setIfInBounds_toArray, List.set_cons_zero, List.set_cons_succ])
                        refine wpAnyK_take hOnce (i := 14) (oi := ⟨_, _, _, _, _, _⟩) (v := ?_) rfl (by kernel_rfl) (fun _ _ _ h => h) (by assumption) (by rfl) (fun w hSw => ?_) ?_
                        rotate_left
                        · (try dsimp only at hSw)
                          go_simp
                          all_goals with_reducible rfl
                        (try simp only [Act.put, List.setIfInBounds_toArray, List.set_cons_zero, List.set_cons_succ])
                        refine wpAnyK_take hOnce (i := 15) (oi := ⟨_, _, _, _, _, _⟩) (v := ?_) rfl (by kernel_rfl) (fun _ _ _ h => h) (by assumption) (by rfl) (fun w hSw => ?_) ?_
                        rotate_left
                        · (try dsimp only at hSw)
                          go_simp
                          all_goals with_reducible rfl
                        (try simp only [Act.put, List.setIfInBounds_toArray, List.set_cons_zero, List.set_cons_succ])
                        refine wpAnyK_take hOnce (i := 16) (oi := ⟨_, _, _, _, _, _⟩) (v := ?_) rfl (by kernel_rfl) (fun _ _ _ h => h) (by assumption) (by rfl) (fun w hSw => ?_) ?_
                        rotate_left
                        · (try dsimp only at hSw)
                          go_simp
                          all_goals with_reducible rfl
                        (try simp only [Act.put, List.setIfInBounds_toArray, List.set_cons_zero, List.set_cons_succ])
                        refine wpAnyK_step (i := 17) (o := ⟨_, _, _, _, _, _⟩) (by kernel_rfl) rfl (fun K hK => ?_)
                        go_simp
                        (go_at_call 112; (with_reducible refine (rqneg (hidZ X1 fb po oo) wr.drew _ v hZd hqgv).mono ?_); rintro ee w9 ⟨t1, u9, rfl, hu9⟩)
                        refine hK.out _ _ (hS.out w9 t1) (fun hHeld => ?_)
                        clear hK K
                        (try simp only [Act.put, List.setIfInBounds_toArray, List.set_cons_zero, List.set_cons_succ])
                        obtain ⟨s9, a9, n9, c9, d9, k9, e9, rfl⟩ := hu9.shape
                        have hX9 := hZd.ext t1
                        have hr9 := mkx RV.mono hrp t1
                        have hu9v := hu9.qv hnb.out
                        refine wpAnyK_step (i := 18) (o := ⟨_, _, _, _, _, _⟩) (by kernel_rfl) rfl (fun K hK => ?_)
                        go_simp
                        (go_at_call 20; (with_reducible refine (rtimes (hidZ X1 fb po oo) w9 _ _ piv (-v) hX9 hr9 hu9v hl1.out).mono ?_); rintro ee w10 ⟨t2, u10, rfl, hu10⟩)
                        refine hK.out _ _ (hS.out w10 (t1.trans t2)) (fun hHeld => ?_)
                        clear hK K
                        (try simp only [Act.put, List.setIfInBounds_toArray, List.set_cons_zero, List.set_cons_succ])
                        rw [hPR'.out] at hu10
                        have hu10v := hu10.rv hprod.out
                        obtain ⟨a10, c10, rfl, hcl10, hs10⟩ := hu10
                        have t12 := t1.trans t2
                        have hX10 := hZd.ext t12
                        have hr10 := mkx RV.mono hri t12
                        refine wpAnyK_step (i := 19) (o := ⟨_, _, _, _, _, _⟩) (by kernel_rfl) rfl (fun K hK => ?_)
                        go_simp
                        (go_at_call 80; (with_reducible refine (rplus (hidZ X1 fb po oo) w10 _ _ row _ hX10 hr10 hu10v hl2.out hl3.out).mono ?_); rintro ee w11 ⟨t3, u11, rfl, hu11⟩)
                        refine hK.out _ _ (hS.out w11 (t12.trans t3)) (fun hHeld => ?_)
                        clear hK K
                        (try simp only [Act.put, List.setIfInBounds_toArray, List.set_cons_zero, List.set_cons_succ])
                        rw [hNR'.out] at hu11
                        obtain ⟨a11, c11, rfl, hcl11, hs11⟩ := hu11
                        have hR11 := hRd.ext0 (t12.trans t3)
                        obtain ⟨_, _, p0, fz, _, _⟩ := hR11.row i hiO'.out
                        refine wpAnyK_take hOnce (i := 20) (oi := ⟨_, _, _, _, _, _⟩) (v := ?_) rfl (by kernel_rfl) (fun _ _ _ h => h) (by assumption) (by rfl) (fun w hSw => ?_) ?_
                        rotate_left
                        · (try dsimp only at hSw)
                          go_simp
                          all_goals with_reducible rfl
                        (try simp only [Act.put, List.setIfInBounds_toArray, List.set_cons_zero, List.set_cons_succ])
                        refine wpAnyK_last (i := 21) (o := ⟨_, _, _, _, _, _⟩) (by kernel_rfl) rfl (by decide) (by kernel_rfl) (fun K hK => ?_)
                        go_simp
                        refine hK.out _ _ ?_
                        clear hK K
                        obtain ⟨hO12, hE12⟩ := hR11.rows.set1 tyRats RC.elem SlV.one i hiO'.out (.slice a11 NR.length c11) NR ⟨a11, c11, rfl, hcl11, hs11⟩
                        have hR12 := hR11.setRows hE12 hO12
                        rw [hset.out] at hR12
                        clear p0 fz i2 i3 hO12 hE12 hR11 hHeld hOnce
                        go_wp2_with fail
                        go_roundw
                        case rel => exact ⟨i + 1, by go_num, by omega, hR12⟩
                        case measure => simp [intOf]; omega
                    · have hin : i = n := by omega
                      subst hin
                      have hbase := hb0.out wr hR.rows
                      have hXz : ∀ k, un (hidF X1 fb) oo k = true → k < wr.heap.size := fun k hk => hR.hz k (by
                        by_cases h : hidF X1 fb k = true
                        · exact un_left (un_left h)
                        · exact un_right (by simpa [un, h] using hk))
                      have hP := hR.piv
                      have hpl2 : Hid ((P ++ [j]).length = pl + 1) := hid (by rw [List.length_append, hpl.out]; rfl)
                      clear i1 hb0
                      go_wp2_with (at_builtin; refine st_append1n (l := P) slInt rfl (NatIn.elem .i64) hbase hXz pl hpl.out rfl rfl hP (.int .i64 (j : Int)) j rfl rfl (by omega) (by omega) ?_; intro po2 pc2 w10 hP6 hE7 hor)
                      have hR9 := hR.push hE7 hP6 hor
                      go_roundg (c - (j + 1))
                      case measure => omega
                      case rel => exact ⟨j + 1, po2, pc2, pl + 1, _, _, _, by go_num, rfl, by omega, hpl2, hpiv, hR9⟩
        · have hin : t = n := by omega
          subst hin
          have hne : ((t : Int) == (t : Int)) = true := beqT rfl
          have hst2 := hid (rN_none hsh'.out hst.out hpl.out hzz.out)
          clear hzz
          go_wp2_with fail
          go_roundg (c - (j + 1))
          case measure => omega
          case rel => exact ⟨j + 1, po, pc, pl, M, P, f, by go_num, rfl, by omega, hpl, hst2, hR⟩
    · have hjc : j = c := by omega
      subst hjc
      go_wp2_with fail
      refine hco.mono ?_
      rintro e w2 ⟨rfl, rfl⟩
      obtain ⟨sf, af, nf, cf, df, kf, ef, bF, hqF⟩ := hR.fac
      have hres := hR.res
      have z0 := bF.cell 0 rfl
      have z1 := bF.cell 1 rfl
      have z2 := bF.cell 2 rfl
      have g0 := hres.cell 0 rfl
      have g1 := hres.cell 1 rfl
      have g2 := hres.cell 2 rfl
      have h0 := hres.frozen 0
      have h1 := hres.frozen 1
      have h2 := hres.frozen 2
      obtain ⟨q1, q2⟩ := hres.set3 (.bool sf) (.slice af nf cf) (.slice df kf ef)
      have q1d := q1.ext0 (ExtX.refl (Y := noY) _).drew
      have q2d := q2.drew
      have hqf : QC (mk X _) (.agg #[.bool sf, .slice af nf cf, .slice df kf ef]) f := QC.mono _ _ _ _ (hunb.out _) (QC.mono _ _ _ _ (mk_mono q2d fun k hk => ob_hid hrb.out hk) (QC.mono _ _ _ _ (mk_sub fun k _ hk => un_left (un_left (un_left hk))) hqF))
      have hEf : Ext w _ := ExtX.box hR.ext q2d (by rw [hbw'.out]; exact Nat.le_refl _)
      have hsr : Sl RC 1 (mk X _) oo M := (((hR.rows.sl RC.elem).mono RC.mono (mk_sub fun k _ hk => un_left (un_left hk))).mono RC.mono (mk_mono q2d fun k hk => ob_hid hrb.out hk)).mono RC.mono (hunb.out _)
      have hsp : Sl (NatIn .i64) 1 (mk X _) po P := (((hR.piv.sl (NatIn.elem _)).mono (NatIn.mono _) (mk_sub fun k _ hk => un_left (un_left hk))).mono (NatIn.mono _) (mk_mono q2d fun k hk => ob_hid hrb.out hk)).mono (NatIn.mono _) (hunb.out _)
      have hpc : P.length ≤ pc := hR.piv.lenCap
      clear hres bF hR hqF q1 q2 q2d
      go_wp2_with fail
      go_region
      go_wp2_with fail
      refine bodyPost_ret (results_ttb (P := Tryz.prog) (c := 4) (d := 2) (e := 3) rfl rfl stRat q1d rfl) rfl ?_
      have hRO : ∀ w9, Ext w w9 → Sl RC 1 (mk X w9) oo M → Sl (NatIn .i64) 1 (mk X w9) po P → QC (mk X w9) (.agg #[.bool sf, .slice af nf cf, .slice df kf ef]) f → RedOut X w (rN m j) (.returned (.tuple #[.slice oo n co, .slice po pl pc, .agg #[.bool sf, .slice af nf cf, .slice df kf ef]])) w9 := fun w9 hEf hsr hsp hqf => by
        rw [hst.out]
        exact ⟨hEf, oo, co, po, pc, _, by rw [hMl.out, hpl.out], by rw [hMl.out]; exact hcap, hpc, hsr, hsp, hqf⟩
      exact hRO _ hEf hsr hsp hqf
end Go.Proofs.YtjbhcniiioepgaaGreat


namespace Go.Lin
open Go.Lim
end Go.Lin
namespace Go.Proofs.YtjbhcniiioepgaaGreat
open Go.RowKit Go.Rep Go.Lim Go.Lin

/-- A reduced form, its pivots and no error. -/
def RReOut (X : Nat → Bool) (w : World) (S : Mat × List Nat) (e : Ending) (w' : World) : Prop := Ext w w' ∧ ∃ oo co po pc, e = .returned (.tuple #[.slice oo S.1.length co, .slice po S.2.length pc, .int .i64 0]) ∧ S.1.length ≤ co ∧ S.2.length ≤ pc ∧ Sl RC 1 (mk X w') oo S.1 ∧ Sl (NatIn .i64) 1 (mk X w') po S.2

theorem rredu_no (X : Nat → Bool) (w : World) (u : Value) (m : List (List Rat)) (hu : MV (mk X w) u m) (hl : m.length ≤ 1099511627776) (hf : formedB m = false) : Calls Tryz.prog 34 #[u] w (fun e w' => Ext w w' ∧ e = .returned (.tuple #[.slice none 0 0, .slice none 0 0, .int .i64 6])) := by
  have hfo := rformed QV.mono X w u m hu hl
  rw [hf] at hfo
  clear hf
  go_enter Tryz.func34, Tryz.ntmps34
  go_wp2_with fail
  refine hfo.mono ?_
  rintro e w1 ⟨hE1, rfl⟩
  go_wp2_with fail
  go_ret3
  exact ⟨hE1, rfl⟩

theorem rredu_ok (X : Nat → Bool) (w : World) (u : Value) (m : List (List Rat)) (n c : Nat) (hX : HX X w) (hu : MV (mk X w) u m) (hf : formedB m = true) (hnn : m.length = n) (hcc : colsL m = c) (hT : TameR m c) : Calls Tryz.prog 34 #[u] w (RReOut X w ((rN m c).1, (rN m c).2.1)) := by
  obtain ⟨hsh, h96, hc96, _, _⟩ := formedB_shp hf
  rw [hnn, hcc] at hsh
  rw [hnn] at h96
  rw [hcc] at hc96
  have hfo := rformed QV.mono X w u m hu (by omega)
  rw [hf] at hfo
  have hre := hid (fun w' (h : Ext w w') => rreduce_any X w' u m n c (hX.ext h) (mkx MV.mono hu h) hsh hcc (by omega) (by omega) hT)
  obtain ⟨S, hS⟩ : ∃ S, rN m c = S := ⟨_, rfl⟩
  rw [hS] at hre ⊢
  clear hf hS
  go_enter Tryz.func34, Tryz.ntmps34
  go_wp2_with fail
  refine hfo.mono ?_
  rintro e w1 ⟨hE1, rfl⟩
  have h1 := hre.out w1 hE1
  clear hfo
  go_wp2_with fail
  refine h1.mono ?_
  rintro e w2 ⟨hE2, oo, co, po, pc, uf, rfl, hco, hpc, hso, hsp, huf⟩
  obtain ⟨s2, a2, n2, c2, d2, k2, e2, rfl⟩ := huf.shape
  have bx := Bx.new w2 #[.bool false, .slice none 0 0, .slice none 0 0] 31
  clear h1
  go_wp2_with ((with_reducible show wpList _ _ _ (⟨_, .store _ _ _, _, _, _, _⟩ :: _) _ _); refine st_storeBox stRat rfl rfl bx rfl rfl (one3 _ _ _ _ _ _ _) ?_; intro w3 r1 r2)
  have hE3 : Ext w2 w3 := ExtX.box ((ExtX.refl w2).alloc _) r2 (Nat.le_refl _)
  go_ret3
  exact ⟨hE1.trans (hE2.trans hE3), oo, co, po, pc, rfl, hco, hpc, hso.mono RC.mono (mk_ext hE3), hsp.mono (NatIn.mono _) (mk_ext hE3)⟩

end Go.Proofs.YtjbhcniiioepgaaGreat


namespace Go.Lin
open Go.Lim
end Go.Lin
namespace Go.Proofs.YtjbhcniiioepgaaGreat
open Go.RowKit Go.Rep Go.Lim Go.Lin

/-- A row whose slice the call itself made. -/
def TlOut (X : Nat → Bool) (w : World) (l : List Rat) (e : Ending) (w' : World) : Prop := Ext w w' ∧ ∃ oo co, e = .returned (.slice oo l.length co) ∧ OL QC 3 X w.heap.size 31 w' oo co l

set_option maxRecDepth 100000 in
theorem rqtakelistO (X : Nat → Bool) (w : World) (u : Value) (l : List Rat) (hX : HX X w) (hu : RV (mk X w) u l) (hl : l.length ≤ 1000000) : Calls Tryz.prog 78 #[u] w (TlOut X w l) := by
  obtain ⟨ao, ca, rfl, hca, hsa⟩ := hu
  have hha := hsa.hd
  go_enter Tryz.func78, Tryz.ntmps78
  go_wp2_with fail
  go_loopw [3, 4] (fun o c wr => ∃ (i : Nat) (oo : Option Addr) (co : Nat), c = .int .i64 i ∧ o = .slice oo i co ∧ i ≤ l.length ∧ OL QC 3 X w.heap.size 31 wr oo co (l.take i) ∧ Ext w wr) (fun _ c _ => l.length - (intOf c).toNat)
  case atStart => exact ⟨0, none, 0, rfl, rfl, Nat.zero_le _, OL.nil _ _ _ _ _ _, ExtX.refl _⟩
  case round =>
    obtain ⟨i, oo, co, rfl, rfl, hi, hO, hE⟩ := hrel
    have hXr : HX X wr := hX.ext hE
    have hXu : HX (un X oo) wr := hO.unX hXr
    have hbase := hE.size
    by_cases hlt : i < l.length
    · have hsr : Sl QV 3 (mk (un X oo) wr) ao l := hsa.old QV.mono hE (fun j hj => hO.ob_lt hj)
      have htk := hid (take_snoc l i hlt)
      have hln := hid (len_take hi)
      go_wp2_with (first | (with_reducible refine up_ixn slRat (by omega) (by assumption) ?_) | ((with_reducible show wpList _ _ _ (⟨_, .load _ _, _, _, _, _⟩ :: _) _ _); refine st_loadElem stRat i hsr hlt rfl (by simp) QV.agg ?_; intro u5 hu5; obtain ⟨s5, a5, n5, c5, d5, k5, e5, rfl⟩ := hu5.shape))
      refine (rqtake (un X oo) wr _ _ hXu hu5).mono ?_
      rintro e w6 ⟨hE6, u6, rfl, hu6⟩
      obtain ⟨s6, a6, n6, c6, d6, k6, e6, rfl⟩ := hu6.shape
      have hO6 := hO.ext0 QC.elem hE6
      have hb6 := hE6.size
      go_wp2_with (at_builtin; refine st_append1n (l := l.take i) slRat rfl QC.elem (by omega) (hXr.ext hE6) i hln.out rfl rfl hO6 (.agg #[.bool s6, .slice a6 n6 c6, .slice d6 k6 e6]) l[i] rfl hu6 (by omega) (by omega) ?_; intro oo2 co2 w7 hO7 hE7 hor)
      have hE8 := (hE.trans hE6).own hO6 (Nat.le_refl _) hE7
      rw [htk.out] at hO7
      go_roundw
      case rel => exact ⟨i + 1, oo2, co2, by go_num, by go_num, by omega, hO7, hE8⟩
      case measure => simp [intOf]; omega
    · have hil : i = l.length := by omega
      subst hil
      rw [List.take_length] at hO
      go_wp2_with fail
      go_ret
      exact ⟨hE, oo, co, rfl, hO⟩

end Go.Proofs.YtjbhcniiioepgaaGreat


namespace Go.Lin
open Go.Lim
end Go.Lin
namespace Go.Proofs.YtjbhcniiioepgaaGreat
open Go.RowKit Go.Rep Go.Lim Go.Lin

end Go.Proofs.YtjbhcniiioepgaaGreat


namespace Go.Proofs.YtjbhcniiioepgaaGreat
open Go.RowKit Go.Rep Go.Lim Go.Lin

/-- What Solve returns. -/
def SolOut (X : Nat → Bool) (w : World) (S : Mat × List Nat) (c : Nat) (e : Ending) (w' : World) : Prop := Ext w w' ∧ ((c ∈ S.2 ∧ e = .returned (.tuple #[.slice none 0 0, .int .i64 11])) ∨ (c ∉ S.2 ∧ ∃ u, e = .returned (.tuple #[u, .int .i64 0]) ∧ RC (mk X w') u (solL S.1 S.2 c)))

theorem solve_no (X : Nat → Bool) (w : World) (u v : Value) (m : List (List Rat)) (hu : MV (mk X w) u m) (hl : m.length ≤ 1099511627776) (hf : formedB m = false) : Calls Tryz.prog 53 #[u, v] w (fun e w' => w' = w ∧ e = .returned (.tuple #[.slice none 0 0, .int .i64 6])) := by
  have hfo := formed_any X w u m hu hl
  rw [hf] at hfo
  clear hf
  go_enter Tryz.func53, Tryz.ntmps53
  go_wp2_with fail
  refine hfo.mono ?_
  rintro e w1 ⟨rfl, rfl⟩
  go_wp2_with fail
  go_ret2
  exact ⟨rfl, rfl⟩

theorem solve_no2 (X : Nat → Bool) (w : World) (u v : Value) (m : List (List Rat)) (b : List Rat) (hu : MV (mk X w) u m) (hv : RV (mk X w) v b) (hf : formedB m = true) (hb : b.length ≠ m.length) : Calls Tryz.prog 53 #[u, v] w (fun e w' => w' = w ∧ e = .returned (.tuple #[.slice none 0 0, .int .i64 6])) := by
  obtain ⟨hsh, h96, hc96, _, _⟩ := formedB_shp hf
  have hfo := formed_any X w u m hu (by omega)
  rw [hf] at hfo
  obtain ⟨ua, uca, rfl, huca, hua⟩ := hu
  obtain ⟨va, vca, rfl, hvca, hva⟩ := hv
  have hne : ((b.length : Int) != (m.length : Int)) = true := bneT (by omega)
  clear hf
  go_enter Tryz.func53, Tryz.ntmps53
  go_wp2_with fail
  refine hfo.mono ?_
  rintro e w1 ⟨rfl, rfl⟩
  go_wp2_with fail
  go_ret2
  exact ⟨rfl, rfl⟩

set_option maxRecDepth 100000 in
set_option maxHeartbeats 1600000 in
theorem solve_ok (X : Nat → Bool) (w : World) (u v : Value) (m : List (List Rat)) (b : List Rat) (n c : Nat) (hX : HX X w) (hu : MV (mk X w) u m) (hv : RV (mk X w) v b) (hf : formedB m = true) (hnn : m.length = n) (hcc : colsL m = c) (hbl : b.length = n) (hT : Tame (wideB m b n) (c + 1)) : Calls Tryz.prog 53 #[u, v] w (SolOut X w (redP (wideB m b n) (c + 1)) c) := by
  obtain ⟨hsh, h96, hc96, hpos, _⟩ := formedB_shp hf
  rw [hnn, hcc] at hsh
  rw [hnn] at h96 hpos
  rw [hcc] at hc96 hpos
  have hfo := formed_any X w u m hu (by omega)
  rw [hf] at hfo
  have hcol := columns_any X w u m hu
  rw [hcc] at hcol
  have hsh' := hid hsh
  have hnn' := hid hnn
  have hcc' := hid hcc
  have hbl' := hid hbl
  have hWs := hid (wideB_shp (b := b) hsh)
  have hwg : Hid (∀ i (h : i < (wideB m b n).length) (hi : i < m.length) (hb : i < b.length), (wideB m b n)[i] = m[i] ++ [b[i]]) := hid fun i h hi hb => wideB_get h hi hb
  have hWc : 0 < n → colsL (wideB m b n) = c + 1 := fun h => shpc (wideB_shp (b := b) hsh) h
  obtain ⟨W, hW⟩ : ∃ W, wideB m b n = W := ⟨_, rfl⟩
  rw [hW] at hWs hT hwg hWc ⊢
  have hTt := hid (tame_cols hWs.out (colsL W) hWc hT)
  have hRc := hid (redP_cols hWs.out (colsL W) hWc)
  have hWcs : Hid (Shp n (colsL W) W) := hid ⟨hWs.out.1, fun r hr => by
    have := List.length_pos_of_mem hr
    rw [hWc (by rw [← hWs.out.1]; exact this)]; exact hWs.out.2 r hr⟩
  have hWc9 : Hid (colsL W ≤ 900) := hid (by
    by_cases h0 : 0 < n
    · rw [hWc h0]; omega
    · have : W = [] := List.eq_nil_of_length_eq_zero (by rw [hWs.out.1]; omega)
      subst this; exact Nat.zero_le _)
  obtain ⟨ua, uca, rfl, huca, hua⟩ := hu
  have hu : MV (mk X w) (.slice ua m.length uca) m := ⟨ua, uca, rfl, huca, hua⟩
  obtain ⟨va, vca, rfl, hvca, hva⟩ := hv
  have hhv := hva.hd
  rw [hnn] at hfo hcol hu ⊢
  rw [hbl] at hvca hhv ⊢
  have hw2 : wrap64 ((c : Int) + 1) = ((c + 1 : Nat) : Int) := by rw [IntWalk.wrap64_in _ (by omega)]; omega
  have hneq : ((n : Int) != (n : Int)) = false := bneF rfl
  clear hf hnn hcc hsh huca hua hW hT hWc hbl
  go_enter Tryz.func53, Tryz.ntmps53
  go_wp2_with fail
  refine hfo.mono ?_
  rintro e w1 ⟨rfl, rfl⟩
  go_wp2_with fail
  refine hcol.mono ?_
  rintro e w2 ⟨rfl, rfl⟩
  go_wp2_with fail
  refine (zero_any X w2 n (c + 1) hX (by omega) (by omega)).mono ?_
  rintro e w3 ⟨hE3, ao, cap, hs, rfl, hM3⟩
  rw [List.length_replicate]
  have hlen : Hid (hs.length = n) := hid (by rw [hM3.len]; simp)
  have hhO : Hd ao n := by have := hM3.outer.hd; rw [hlen.out] at this; exact this
  have hX3 := hX.ext hE3
  have hZ3 := hM3.hz hX3
  have hu3 := hM3.old MV.mono hu hE3 (Nat.le_refl _) (fun _ _ h => h)
  have hv3 := hva.mono QV.mono (fun a v h => ((mk_over (X := X) (Z := mz X ao hs) hE3 (fun k _ hk => by simp [noY] at hk) fun k hk hz => by
    rcases mz_iff.1 hz with a | a
    · exact a
    · have := (hM3.mb_block (mb_iff.2 a)).1; omega) a v h))
  obtain ⟨V, hV⟩ : ∃ V, zerL n (c + 1) = V := ⟨_, rfl⟩
  have hVl : Hid (V.length = n) := hid (by rw [← hV]; exact zerL_len _ _)
  have hVg : Hid (∀ i (h : i < V.length), V[i] = List.replicate (c + 1) 0) := hid fun i h => by subst hV; exact zerL_get h
  have hWV : Hid (W.length = V.length) := hid (by rw [hVl.out]; exact hWs.out.1)
  change MO X w2.heap.size _ _ w3 ao cap hs (zerL n (c + 1)) at hM3
  rw [hV, ← mix_zero W V] at hM3
  have hco := copied_any (mz X ao hs) w3 _ m n c hZ3 hu3 hsh'.out hcc'.out (by omega) (by omega)
  clear hfo hcol hu hu3 hV
  go_wp2_with fail
  refine hco.mono ?_
  rintro e w4 ⟨hE4, bo, capb, hs4, rfl, hM4⟩
  have hmc4 := hM4.mc
  rw [hnn'.out] at hmc4 ⊢
  have hM34 := hM3.ext0 hE4
  have hE04 := hE3.trans hE4
  obtain ⟨ba, bca, heq, hbca, hsb⟩ := hmc4
  simp only [Value.slice.injEq] at heq
  obtain ⟨rfl, hx9, rfl⟩ := heq
  clear hx9
  have hhb := hsb.hd
  rw [hnn'.out] at hhb
  obtain ⟨Z, hZe⟩ : ∃ Z, mz X ao hs = Z := ⟨_, rfl⟩
  have hZ' := hid hZe
  rw [hZe] at hsb hZ3 hv3
  have hv4 := hv3.mono QV.mono (mk_ext hE4)
  clear hv3
  clear hco hM3 hM4 hZe
  go_wp2_with fail
  go_loopw [33] (fun k wr => ∃ (i : Nat), k = .int .i64 i ∧ i ≤ n ∧ MO X w2.heap.size 33 31 wr ao cap hs (mix W V i) ∧ Sl RC 1 (mk Z wr) bo m ∧ Sl QV 3 (mk Z wr) va b ∧ Ext w2 wr) (fun k _ => n - (intOf k).toNat)
  case atStart => exact ⟨0, rfl, Nat.zero_le _, hM34, hsb, hv4, hE04⟩
  case round =>
    obtain ⟨i, rfl, hi, hM, hsb, hva, hE⟩ := hrel
    by_cases hlt : i < n
    · have him : i < m.length := by rw [hnn'.out]; exact hlt
      obtain ⟨a1, c1, hX1, hc1, hcl1, hq1⟩ := hsb.row i him
      have k00 := hc1.out noY wr (ExtX.refl _) rfl
      have hxl : Hid (m[i].length = c) := hid (hsh'.out.2 _ (List.getElem_mem _))
      have hiV : i < V.length := by rw [hVl.out]; exact hlt
      have hiW : i < W.length := by rw [hWV.out]; exact hiV
      have hib : i < b.length := by rw [hbl'.out]; exact hlt
      have hWi := hid (hwg.out i hiW him hib)
      have hVi := hid (hVg.out i hiV)
      obtain ⟨x, hx⟩ : ∃ x, m[i] = x := ⟨_, rfl⟩
      rw [hx] at k00 hcl1 hq1 hxl hWi
      rw [hxl.out] at k00 hcl1
      have hh1 : Hd a1 c := by have := hq1.hd; rw [hxl.out] at this; exact this
      have hih : i < hs.length := by rw [hlen.out]; exact hlt
      have hmi : i < (mix W V i).length := by rw [mix_len hWV.out]; exact hiW
      have hmg : Hid ((mix W V i)[i] = List.replicate (c + 1) 0) := hid (by rw [mix_getElem hWV.out, if_neg (by omega)]; exact hVi.out)
      have hms : Hid ((mix W V i).set i (x ++ [b[i]]) = mix W V (i + 1)) := hid (by rw [← hWi.out]; exact mix_set hWV.out hiW)
      obtain ⟨a, na, cr, hhd⟩ : ∃ a na cr, hs[i] = (a, na, cr) := ⟨_, _, _, rfl⟩
      have hna : na = c + 1 := by
        have := hM.rlen i hih hmi
        rw [hhd, hmg.out, List.length_replicate] at this; exact this
      have hR := hM.row i hih hmi
      rw [hmg.out] at hR
      simp only [hhd] at hR
      have hz1 := fun k (hk : ob a k = true) => hM.mz_sub hih k (by rw [hhd]; exact hk)
      have hsp := fun k (hk : ob a k = true) => hM.sep i hih k (by rw [hhd]; exact hk)
      have hun : Hid (un (cut (mz X ao hs) a) a = Z) := hid (by rw [un_cut hz1]; exact hZ'.out)
      have hda : Hd a na := by have := hR.hd; rw [List.length_replicate, ← hna] at this; exact this
      have hna' := hid hna
      have y1 : wr.cell? (adr ao i) = some (.slice a na cr) := by
        have := (hM.hdr i hih).1
        rw [hhd] at this; exact this
      have haob : Hid (ob a (adr ao i).block = false) := hid (by
        cases hb : ob a (adr ao i).block
        · rfl
        · have h1 := (hsp _ hb).2
          obtain ⟨b0, o0, rfl⟩ := hhO (by omega)
          simp [ob, adr] at h1)
      have hhd' := hid hhd
      have hRl : Hid ((List.replicate (c + 1) (0 : Rat)).length = na) := hid (by rw [hna]; exact List.length_replicate)
      have hqz : Sl QC 3 (mk (un (cut (mz X ao hs) a) a) wr) a1 x := by rw [hun.out]; exact hq1
      clear hc1 hx hhd hna
      obtain ⟨wo, hwo⟩ : ∃ wo, wo = wr := ⟨_, rfl⟩
      subst hwo
      go_wp2_with (first | (with_reducible refine up_ix1 slRats (by omega) (by assumption) ?_) | (refine st_copyTo slRat QC.elem x rfl hRl.out rfl hxl.out hR hqz (by rw [hna'.out]; omega) (by have := hpos (by omega); omega) ?_; intro w5 hO5 hE5; have y5 := hE5.cellY y1 haob.out))
      have hxi : x ++ List.drop c (List.replicate (c + 1) (0 : Rat)) = x ++ [0] := by rw [List.drop_replicate, show c + 1 - c = 1 by omega]; rfl
      rw [hxi] at hO5
      have hzz : ∀ k, ob a k = true → Z k = true := fun k hk => by rw [← hZ'.out]; exact hz1 k hk
      have hxr : Hid ((x ++ [(0 : Rat)]).length = na) := hid (by rw [List.length_append, hxl.out, hna'.out]; rfl)
      have hM5 := hM.upd hih (l := x ++ [(0 : Rat)]) (show ExtX (ob hs[i].1) wo w5 by rw [hhd'.out]; exact hE5) (fun hi' => by rw [hmg.out, List.length_replicate, hxr.out, hna'.out]) (by rw [hhd'.out]; exact hO5)
      have hsb5 := hsb.mono RC.mono (mk_mono hE5 hzz)
      have hE05 := hM.ext_from hE (Nat.le_refl _) (ExtX.row hih (show ExtX (ob hs[i].1) wo w5 by rw [hhd'.out]; exact hE5))
      have hput : Hid ((x ++ [(0 : Rat)]).set c b[i] = x ++ [b[i]]) := hid (by rw [List.set_append_right _ _ (by rw [hxl.out]; exact Nat.le_refl _), hxl.out, Nat.sub_self]; rfl)
      have hni : c < (x ++ [(0 : Rat)]).length := by rw [hxr.out, hna'.out]; omega
      have hZ5 : HX Z w5 := by
        have h1 := hM5.hz (hX.ext hE05)
        rw [hZ'.out] at h1; exact h1
      have hEd : Ext w5 w5.drew := (ExtX.refl w5).drew
      obtain ⟨g4, o4, s4, a4, n4, c4, d4, k4, e4, hg4, hX4, hc4, hq4⟩ := hva.rat QV.shaped i hib
      have hab4 : Hid (ob a g4 = false) := hid (by
        cases hb : ob a g4
        · rfl
        · have := hzz g4 hb; rw [hX4] at this; simp at this)
      have hv5 := hva.mono QV.mono (mk_mono hE5 hzz)
      have hq5 : QV (mk Z w5.drew) (.agg #[.bool s4, .slice a4 n4 c4, .slice d4 k4 e4]) b[i] := mkx QV.mono (QV.mono _ _ _ _ (mk_mono hE5 hzz) hq4) hEd
      obtain ⟨v, hv⟩ : ∃ v, b[i] = v := ⟨_, rfl⟩
      rw [hv] at hput hq5 hms
      obtain ⟨L, hL⟩ : ∃ L, x ++ [(0 : Rat)] = L := ⟨_, rfl⟩
      rw [hL] at hO5 hM5 hxr hput hni
      obtain ⟨L2, hL2⟩ : ∃ L2, x ++ [v] = L2 := ⟨_, rfl⟩
      rw [hL2] at hput hms
      have hL2l : Hid (L2.length = L.length) := hid (by rw [← hput.out, List.length_set])
      obtain ⟨g, o, hg⟩ : ∃ g o, adr a (c * 3) = ⟨g, o, none⟩ := ⟨_, _, rfl⟩
      have i2 : ∀ W, (Instr.indexAt 33 (.slice a na cr) (.int .i64 (c : Int))).run Tryz.prog W = .ok (.pointer (some ⟨g, o, none⟩)) W := by
        rw [← hg]; exact run_indexAt_adr slRat a na cr .i64 c hda (by rw [hna'.out]; omega)
      have i3 : ∀ W, (Instr.indexAt 33 (.slice va n vca) (.int .i64 (i : Int))).run Tryz.prog W = .ok (.pointer (some ⟨g4, o4, none⟩)) W := by
        rw [← hg4]; exact run_indexAt_adr slRat va n vca .i64 i hhv (by omega)
      have i1 : ∀ W, (Instr.indexAt 23 (.slice ao n cap) (.int .i64 (i : Int))).run Tryz.prog W = .ok (.pointer (some (adr ao i))) W := run_ix1 slRats ao n cap .i64 i hhO (by omega) rfl
      have hg' := hid hg
      have hS : Hid (∀ Y W', ExtX Y w5.drew W' → Y (adr ao i).block = false → Y g4 = false → W'.cell? (adr ao i) = some (.slice a na cr) ∧ W'.cell? ⟨g4, o4, none⟩ = some (.bool s4) ∧ W'.cell? ⟨g4, o4 + 1, none⟩ = some (.slice a4 n4 c4) ∧ W'.cell? ⟨g4, o4 + 2, none⟩ = some (.slice d4 k4 e4)) := hid fun Y W' h hy1 hy2 => by
        have p := hc4.out (ob a) w5.drew (hE5.trans (ExtX.of hEd)) hab4.out
        exact ⟨h.cellY (hEd.cell y5) hy1, h.cellY p.1 hy2, h.cellY p.2.1 hy2, h.cellY p.2.2 hy2⟩
      obtain ⟨k20, k30, k31, k32⟩ := hS.out noY w5.drew (ExtX.refl _) rfl rfl
      have hO5d := hO5.ext0 QC.elem hEd
      have h00 : QV (mk Z w5.drew) (.agg #[.bool false, .slice none 0 0, .slice none 0 0]) 0 := (QC.zero _).qv (by rw [hq_zero]; decide)
      have qf := qadd Z w5.drew _ _ _ 0 (hZ5.ext hEd) hq5 h00
      rw [Rat.add_zero] at qf
      have hun' : Hid (un (cut (mz X ao hs) a) a = Z) := hun
      clear hxi hL hL2 hg hg4 hc4 hq4 hv y1 y5 hR hqz hq1 k00 hM hsb hva
      go_region_held3 (fun w' => w'.cell? (adr ao i) = some (.slice a na cr) ∧ w'.cell? ⟨g4, o4, none⟩ = some (.bool s4) ∧ w'.cell? ⟨g4, o4 + 1, none⟩ = some (.slice a4 n4 c4) ∧ w'.cell? ⟨g4, o4 + 2, none⟩ = some (.slice d4 k4 e4))
        (first | exact hS.out noY _ t1 rfl rfl | exact hS.out (ob a) _ ((ExtX.of t1).trans hset.2) haob.out hab4.out | go_keep)
        ((go_at_call 110; (with_reducible refine qf.mono ?_); rintro ee w6 ⟨t1, u6, rfl, hu6⟩; obtain ⟨s6, a6, n6, c6, d6, k6, e6, rfl⟩ := hu6.shape; have hO6 := hO5d.ext0 QC.elem t1; obtain ⟨_, v0, v1, v2, _, ⟨g0, f0⟩, ⟨g1, f1⟩, ⟨g2, f2⟩, _⟩ := hO6.cell3 c hni hg'.out; have hset := hO6.set3 tyRat QC.elem c hni hg'.out (v0 := .bool s6) (v1 := .slice a6 n6 c6) (v2 := .slice d6 k6 e6) (x := v) (by rw [hun'.out]; exact hu6)))
      obtain ⟨q1, q2⟩ := hset
      rw [hput.out] at q1
      obtain ⟨w8, hw8⟩ : ∃ w8, ((w6.setCell ⟨g, o, none⟩ (.bool s6)).setCell ⟨g, o + 1, none⟩ (.slice a6 n6 c6)).setCell ⟨g, o + 2, none⟩ (.slice d6 k6 e6) = w8 := ⟨_, rfl⟩
      rw [hw8] at q1 q2 ⊢
      have q2' : ExtX (ob hs[i].1) w6 w8 := by rw [hhd'.out]; exact q2
      have hM6 := hM5.ext0 (hEd.trans t1)
      have hM7 := hM6.upd hih (l := L2) q2' (fun hi' => by rw [List.getElem_set_self]; exact hL2l.out) (by rw [hhd'.out]; exact q1)
      rw [List.set_set, hms.out] at hM7
      have hs8 := (hsb5.mono RC.mono (mk_ext (hEd.trans t1))).mono RC.mono (mk_mono q2 hzz)
      have hv8 := (hv5.mono QV.mono (mk_ext (hEd.trans t1))).mono QV.mono (mk_mono q2 hzz)
      have hE8 := hM6.ext_from (hE05.trans (hEd.trans t1)) (Nat.le_refl _) (ExtX.row hih q2')
      clear k20 k30 k31 k32 g0 g1 g2 f0 f1 f2 i1 i2 i3 hw8
      go_wp2_with fail
      go_roundw
      case rel => exact ⟨i + 1, by go_num, by omega, hM7, hs8, hv8, hE8⟩
      case measure => simp [intOf]; omega
    · have hin : i = n := by omega
      subst hin
      rw [mix_full (by rw [hWs.out.1]; exact Nat.le_refl _) (by rw [hVl.out]; exact Nat.le_refl _)] at hM
      have hXr := hX.ext hE
      have hZr := hM.hz hXr
      obtain ⟨wo, hwo⟩ : ∃ wo, wo = wr := ⟨_, rfl⟩
      subst hwo
      go_wp2_with ((with_reducible show wpList _ _ _ (⟨_, .makeSlice _ _ _, _, _, _, _⟩ :: _) _ _); refine st_make (R := QC) slRat QC.elem (0 : Rat) (fun _ => QC.zero _) (mz X ao hs) hZr wo.heap.size (Nat.le_refl _) c rfl rfl rfl (by omega) (by omega) ?_; intro oo w5 hO5 hE5)
      have hw2o := hE.size
      have hob := fun k (hk : ob oo k = true) => hO5.block hk
      have hoX : ∀ k, ob oo k = true → X k = false := fun k hk => by
        cases hx : X k
        · rfl
        · have := (hob k hk).1; have := hXr k hx; omega
      have hM5 : MO (un X oo) w2.heap.size 33 31 w5 ao cap hs W := hM.ext hE5 (fun k _ hk => by simp [noY] at hk) (fun k hk hx => by
        cases hb : ob oo k
        · simpa [un, hb] using hx
        · have := (hob k hb).1; omega)
      have hX5 : HX (un X oo) w5 := fun k hk => by
        by_cases hx : X k = true
        · exact hXr.ext hE5 k hx
        · exact (hob k (by simpa [un, hx] using hk)).2
      have hE05 := hE.trans hE5
      have hmr := mreduce_any (un X oo) w2.heap.size w5 ao cap i (colsL W) hs W hX5 hM5 hWcs.out rfl (by omega) hWc9.out hTt.out
      rw [hRc.out] at hmr
      have hok := redP_ok hWs.out
      obtain ⟨⟨R, p⟩, hRp⟩ : ∃ S, redP W (c + 1) = S := ⟨_, rfl⟩
      rw [hRp] at hmr hok
      have hRp' := hid hRp
      dsimp only at hok
      have hRs := hid hok.1
      have hRr := hid hok.2.1
      have hob' := hid hob
      have hoX' := hid hoX
      have hXr' := hid hXr
      obtain ⟨pl, hpl⟩ : ∃ pl, p.length = pl := ⟨_, rfl⟩
      have hpl' := hid hpl
      have hpn : pl ≤ i := by have := hok.2.1.le; omega
      clear hok hM hM34 hsb hva hRp hob hoX hXr hX5
      refine hmr.mono ?_
      rintro ee w7 ⟨hE7, po, pc, hs', rfl, hmb, hM7, hP7⟩
      dsimp only at hM7 hP7 ⊢
      rw [hpl]
      have hE07 := hM5.ext_from hE05 (Nat.le_refl _) hE7
      have hlen2 := hid (hM7.len.trans hRs.out.1)
      have hdP : Hd po pl := by have := hP7.hd; rw [hpl] at this; exact this
      have hpb := hid (fun k (hk : ob po k = true) => hP7.block hk)
      have hdO : Hd oo c := by have := hO5.hd; rw [List.length_replicate] at this; exact this
      obtain ⟨M, hMe⟩ : ∃ M, mz (un (un X oo) po) ao hs' = M := ⟨_, rfl⟩
      have hM' := hid hMe
      have hO7 : OL QC 3 (cut M oo) wo.heap.size 31 w7 oo c (sN R p c 0) := hO5.ext QC.elem hE7 (fun k _ hk => mz_iff.2 (.inr (mb_iff.1 hk))) (fun k hk hz => by
        obtain ⟨h1, h2⟩ := cut_of hz
        rw [← hMe] at h1
        rcases mz_iff.1 h1 with h | h
        · by_cases hx : X k = true
          · exact mz_iff.2 (.inl hx)
          · have : ob po k = true := by simpa [un, hx, h2] using h
            have := (hpb.out k this).1; omega
        · have h3 : mb ao hs' k = true := mb_iff.2 h
          rw [hmb] at h3; exact mz_iff.2 (.inr (mb_iff.1 h3)))
      have hoM : Hid (∀ k, ob oo k = true → M k = true) := hid fun k hk => by rw [← hMe]; exact mz_iff.2 (.inl (un_left (un_right hk)))
      clear hmr hM5 hO5 hmb hMe hpl
      go_wp2_with fail
      go_loopw [62] (fun k wr => ∃ (j : Nat), k = .int .i64 j ∧ j ≤ pl ∧ MO (un (un X oo) po) w2.heap.size 33 31 wr ao cap hs' R ∧ OL QC 3 (cut M oo) wo.heap.size 31 wr oo c (sN R p c j) ∧ OL (NatIn .i64) 1 (mz (un X oo) ao hs) w5.heap.size 3 wr po pc p ∧ Hid (∀ k (hk : k < p.length), k < j → p[k] ≠ c) ∧ Ext w2 wr) (fun k _ => pl - (intOf k).toNat)
      case atStart => exact ⟨0, rfl, Nat.zero_le _, hM7, hO7, hP7, hid (fun k _ h => by omega), hE07⟩
      case round =>
        obtain ⟨j, rfl, hj, hM, hO, hP, hne, hE⟩ := hrel
        by_cases hlj : j < pl
        · have hjp : j < p.length := by rw [hpl'.out]; exact hlj
          have hcl := (hP.sl (NatIn.elem _)).nat j hjp
          have hpc1 : Hid (p[j] < c + 1) := hid (hRr.out.lt j hjp)
          have hgd : Hid (p.getD j 0 = p[j]) := hid (by simp [List.getD_eq_getElem?_getD, hjp])
          have hmem : Hid (p[j] ∈ p) := hid (List.getElem_mem _)
          obtain ⟨q, hq⟩ : ∃ q, p[j] = q := ⟨_, rfl⟩
          rw [hq] at hcl hpc1 hgd hmem
          have hq' := hid hq
          clear hq
          by_cases hqc : q = c
          · have hb : ((q : Int) == (c : Int)) = true := beqT (by omega)
            have hmem2 : Hid (c ∈ p) := hid (hqc ▸ hmem.out)
            clear hqc
            go_wp2_with (with_reducible refine up_ix1 slInt (by omega) (by assumption) ?_)
            go_ret2
            unfold SolOut
            rw [hRp'.out]
            exact ⟨hE, .inl ⟨hmem2.out, rfl⟩⟩
          · have hb : ((q : Int) == (c : Int)) = false := beqF (by omega)
            have hqc1 : q < c := by have := hpc1.out; omega
            have hne2 : Hid (∀ k (hk : k < p.length), k < j + 1 → p[k] ≠ c) := hid fun k hk hkj => by
              by_cases h : k = j
              · subst h; rw [hq'.out]; exact hqc
              · exact hne.out k hk (by omega)
            have hjh : j < hs'.length := by rw [hlen2.out]; omega
            have hjR : j < R.length := by rw [hRs.out.1]; omega
            have hrl := hid (hRs.out.2 R[j] (List.getElem_mem _))
            obtain ⟨a, na, cr, hhd⟩ : ∃ a na cr, hs'[j] = (a, na, cr) := ⟨_, _, _, rfl⟩
            have hna : na = c + 1 := by
              have := hM.rlen j hjh hjR
              rw [hhd, hrl.out] at this; exact this
            have hR := hM.row j hjh hjR
            simp only [hhd] at hR
            have hz1 := fun k (hk : ob a k = true) => hM.mz_sub hjh k (by rw [hhd]; exact hk)
            have hun : Hid (un (cut (mz (un (un X oo) po) ao hs') a) a = M) := hid (by rw [un_cut hz1]; exact hM'.out)
            have hda : Hd a na := by have := hR.hd; rw [hrl.out, ← hna] at this; exact this
            have y1 : wr.cell? (adr ao j) = some (.slice a na cr) := by
              have := (hM.hdr j hjh).1
              rw [hhd] at this; exact this
            have hcR : c < R[j].length := by rw [hrl.out]; omega
            have hev : Hid (R[j][c] = ent R j c) := hid (by unfold ent; rw [getD_row hjR]; simp [List.getD_eq_getElem?_getD, hcR])
            have hunO : Hid (un (cut M oo) oo = M) := hid (un_cut hoM.out)
            have hqO : q < (sN R p c j).length := by rw [sN_len]; exact hqc1
            have hsn : Hid ((sN R p c j).set q (ent R j c) = sN R p c (j + 1)) := hid (by rw [← hgd.out]; rfl)
            have hna' := hid hna
            have hcna : c < na := by omega
            clear hhd hna hqc
            go_wp2_with (first | (with_reducible refine up_ix1 slInt (by omega) (by assumption) ?_) | (with_reducible refine up_ix1 slRats (by omega) (by assumption) ?_) | (with_reducible refine up_ixn slRat (by omega) (by assumption) ?_) | ((with_reducible show wpList _ _ _ (⟨_, .load 31 _, _, _, _, _⟩ :: _) _ _); refine st_loadOL stRat c hR hcR rfl (by simp) QC.agg ?_; intro u6 hu6; rw [hev.out, hun.out] at hu6; obtain ⟨s6, a6, n6, c6, d6, k6, e6, rfl⟩ := hu6.shape) | ((with_reducible show wpList _ _ _ (⟨_, .store 31 _ _, _, _, _, _⟩ :: _) _ _); refine st_store tyRat QC.elem q rfl (by simp) hO hqO _ (ent R j c) rfl (by rw [hunO.out]; exact hu6) ?_; intro w8 hO8 hE8))
            rw [hsn.out] at hO8
            have hM8 := hM.ext (X' := un (un X oo) po) hE8 (fun k _ hk => un_left (un_right hk)) (fun _ _ h => h)
            have hP8 := hP.frame (NatIn.pure _) hE8 (fun k hk => by
              cases hb : ob oo k
              · rfl
              · have := (hpb.out k hk).1; have := (hob'.out k hb).2; omega) hP.1
            have hE9 := hE.then_ hE8 fun k hk _ => by
              cases hb : ob oo k
              · rfl
              · have := (hob'.out k hb).1; omega
            clear y1 hcl
            go_roundw
            case rel => exact ⟨j + 1, by go_num, by omega, hM8, hO8, hP8, hne2, hE9⟩
            case measure => simp [intOf]; omega
        · have hjl : j = pl := by omega
          subst hjl
          have hnp : c ∉ p := fun hm => by
            obtain ⟨k, hk, hkc⟩ := List.getElem_of_mem hm
            exact hne.out k hk (by rw [← hpl'.out]; exact hk) hkc
          have hs := (hO.sl QC.elem).mono QC.mono (mk_sub (X := X) fun k _ hk => cut_mk (by rw [← hM'.out]; exact mz_iff.2 (.inl (un_left (un_left hk)))) (by
            cases hb : ob oo k
            · rfl
            · have := hoX'.out k hb; rw [hk] at this; simp at this))
          have hlc := hO.lenCap
          go_wp2_with fail
          go_ret2
          rw [← hpl'.out] at hs hlc
          unfold SolOut
          rw [hRp'.out]
          exact ⟨hE, .inr ⟨hnp, .slice oo c c, rfl, oo, c, by show Value.slice oo c c = Value.slice oo (sN R p c p.length).length c; rw [sN_len], hlc, hs⟩⟩
end Go.Proofs.YtjbhcniiioepgaaGreat


namespace Go.Lin
open Go.Lim
theorem TameR.le {m : Mat} {c c' : Nat} (h : TameR m c) (hc : c' ≤ c) : TameR m c' := let ⟨B, h1, h2⟩ := h; ⟨B, h1, fun j hj => h2 j (Nat.le_trans hj hc)⟩
end Go.Lin
namespace Go.Proofs.YtjbhcniiioepgaaGreat
open Go.RowKit Go.Rep Go.Lim Go.Lin

theorem rsolve_no (X : Nat → Bool) (w : World) (u v : Value) (m : List (List Rat)) (hu : MV (mk X w) u m) (hl : m.length ≤ 1099511627776) (hf : formedB m = false) : Calls Tryz.prog 54 #[u, v] w (fun e w' => Ext w w' ∧ e = .returned (.tuple #[.slice none 0 0, .int .i64 6])) := by
  have hfo := rformed QV.mono X w u m hu hl
  rw [hf] at hfo
  clear hf
  go_enter Tryz.func54, Tryz.ntmps54
  go_wp2_with fail
  refine hfo.mono ?_
  rintro e w1 ⟨hE1, rfl⟩
  go_wp2_with fail
  go_ret2
  exact ⟨hE1, rfl⟩
theorem rsolve_no2 (X : Nat → Bool) (w : World) (u v : Value) (m : List (List Rat)) (b : List Rat) (hu : MV (mk X w) u m) (hv : RV (mk X w) v b) (hf : formedB m = true) (hb : b.length ≠ m.length) : Calls Tryz.prog 54 #[u, v] w (fun e w' => Ext w w' ∧ e = .returned (.tuple #[.slice none 0 0, .int .i64 6])) := by
  have h96 := (formedB_shp hf).2.1
  have hfo := rformed QV.mono X w u m hu (by omega)
  rw [hf] at hfo
  obtain ⟨ua, uca, rfl, huca, hua⟩ := hu
  obtain ⟨va, vca, rfl, hvca, hva⟩ := hv
  obtain ⟨k, hk⟩ : ∃ k, b.length = k := ⟨_, rfl⟩
  obtain ⟨n, hn⟩ : ∃ n, m.length = n := ⟨_, rfl⟩
  rw [hk, hn] at hb
  rw [hk]
  rw [hn] at hfo ⊢
  have hne : ((k : Int) != (n : Int)) = true := bneT (by omega)
  clear hf hk hn hb hva hua
  go_enter Tryz.func54, Tryz.ntmps54
  go_wp2_with fail
  refine hfo.mono ?_
  rintro e w1 ⟨hE1, rfl⟩
  go_wp2_with fail
  go_ret2
  exact ⟨hE1, rfl⟩

set_option maxRecDepth 100000 in
set_option maxHeartbeats 1600000 in
theorem rsolve_ok (X : Nat → Bool) (w : World) (u v : Value) (m : List (List Rat)) (b : List Rat) (n c : Nat) (hX : HX X w) (hu : MV (mk X w) u m) (hv : RV (mk X w) v b) (hf : formedB m = true) (hnn : m.length = n) (hcc : colsL m = c) (hbl : b.length = n) (hT : TameR (wideB m b n) (c + 1)) (hB : BM 68719476736 (wideB m b n)) : Calls Tryz.prog 54 #[u, v] w (SolOut X w (redP (wideB m b n) (c + 1)) c) := by
  obtain ⟨hsh, h96, hc96, hpos, _⟩ := formedB_shp hf
  rw [hnn, hcc] at hsh
  rw [hnn] at h96 hpos
  rw [hcc] at hc96 hpos
  have hfo := rformed QV.mono X w u m hu (by omega)
  rw [hf] at hfo
  have hcol := hid (fun w' (h : Ext w w') => rcolumns X w' u m (mkx MV.mono hu h))
  rw [hcc] at hcol
  have hsh' := hid hsh
  have hnn' := hid hnn
  have hbl' := hid hbl
  have hWs := hid (wideB_shp (b := b) hsh)
  have hwg : Hid (∀ i (h : i < (wideB m b n).length) (hi : i < m.length) (hb : i < b.length), (wideB m b n)[i] = m[i] ++ [b[i]]) := hid fun i h hi hb => wideB_get h hi hb
  have hWc : 0 < n → colsL (wideB m b n) = c + 1 := fun h => shpc (wideB_shp (b := b) hsh) h
  obtain ⟨W, hW⟩ : ∃ W, wideB m b n = W := ⟨_, rfl⟩
  rw [hW] at hWs hT hwg hWc hB ⊢
  have hWcl : colsL W ≤ c + 1 := by
    by_cases h0 : 0 < n
    · rw [hWc h0]; exact Nat.le_refl _
    · have : W = [] := List.eq_nil_of_length_eq_zero (by rw [hWs.out.1]; omega)
      subst this; exact Nat.zero_le _
  have hRc := hid (redP_cols hWs.out (colsL W) hWc)
  have hWcs : Shp n (colsL W) W := ⟨hWs.out.1, fun r hr => by
    have := List.length_pos_of_mem hr
    rw [hWc (by rw [← hWs.out.1]; exact this)]; exact hWs.out.2 r hr⟩
  have hred := hid (red_eq hWcs)
  have hre := hid (fun w' (h : Ext w w') (v : Value) (hv : MC (mk X w') v W) => rreduce_any X w' v W n (colsL W) (hX.ext h) (hv.mv hB) hWcs rfl (by omega) (by omega) (hT.le hWcl))
  have hok := redP_ok hWs.out
  obtain ⟨⟨R, p⟩, hRp⟩ : ∃ S, redP W (c + 1) = S := ⟨_, rfl⟩
  rw [hRp] at hok hRc
  rw [hRc.out] at hred
  have hRp' := hid hRp
  dsimp only at hok
  have hRs := hid hok.1
  have hRr := hid hok.2.1
  obtain ⟨⟨R', p', f⟩, hS⟩ : ∃ S, rN W (colsL W) = S := ⟨_, rfl⟩
  rw [hS] at hre hred
  dsimp only at hred
  obtain ⟨rfl, rfl⟩ : R' = R ∧ p' = p := ⟨hred.out.1.symm, hred.out.2.symm⟩
  have hRl : Hid (R'.length = n) := hid hRs.out.1
  obtain ⟨ua, uca, rfl, huca, hua⟩ := hu
  obtain ⟨va, vca, rfl, hvca, hva⟩ := hv
  have hhu := hua.hd
  have hhv := hva.hd
  rw [hnn] at hfo hcol huca hhu ⊢
  rw [hbl] at hvca hhv ⊢
  have hneq : ((n : Int) != (n : Int)) = false := bneF rfl
  have hWl : Hid (W.length = n) := hid hWs.out.1
  have hWl2 : W.length ≤ n := by rw [hWl.out]; exact Nat.le_refl _
  have hWl3 : n ≤ W.length := by rw [hWl.out]; exact Nat.le_refl _
  have hpn : p'.length ≤ n := hok.2.1.le
  rw [hRp]
  clear hf hnn hcc hsh hW hT hWc hbl hok hRp hS hWcs hWcl hB hred hRc
  go_enter Tryz.func54, Tryz.ntmps54
  go_wp2_with fail
  refine hfo.mono ?_
  rintro e w1 ⟨hE1, rfl⟩
  have h1 := hcol.out w1 hE1
  clear hfo
  go_wp2_with fail
  refine h1.mono ?_
  rintro e w2 ⟨rfl, rfl⟩
  clear h1
  go_wp2_with fail
  go_loopw [7, 8] (fun o cc wr => ∃ (i : Nat) (oo : Option Addr) (co : Nat), cc = .int .i64 i ∧ o = .slice oo i co ∧ i ≤ n ∧ OL RC 1 X w.heap.size 33 wr oo co (W.take i) ∧ Ext w wr) (fun _ cc _ => n - (intOf cc).toNat)
  case atStart => exact ⟨0, none, 0, rfl, rfl, Nat.zero_le _, OL.nil _ _ _ _ _ _, hE1⟩
  case round =>
    obtain ⟨i, oo, co, rfl, rfl, hi, hO, hE⟩ := hrel
    have hXr : HX X wr := hX.ext hE
    have hXu : HX (un X oo) wr := hO.unX hXr
    have hbase := hE.size
    by_cases hlt : i < n
    · have him : i < m.length := by rw [hnn'.out]; exact hlt
      have hib : i < b.length := by rw [hbl'.out]; exact hlt
      have hltW : i < W.length := by omega
      have htk := hid (take_snoc W i hltW)
      have hln := hid (len_take (l := W) (i := i) (by omega))
      have hge := hwg.out i hltW him hib
      rw [hge] at htk
      have hsr : Sl RV 1 (mk (un X oo) wr) ua m := hua.old RV.mono hE (fun j hj => hO.ob_lt hj)
      have hsb : Sl QV 3 (mk (un X oo) wr) va b := hva.old QV.mono hE (fun j hj => hO.ob_lt hj)
      obtain ⟨a1, c1, hX1, hc1, hcl1, hq1⟩ := hsr.row i him
      obtain ⟨g4, o4, s4, a4, n4, c4, d4, k4, e4, hg4, hX4, hc4, hq4⟩ := hsb.rat QV.shaped i hib
      have hrl : Hid (m[i].length = c) := hid (hsh'.out.2 m[i] (List.getElem_mem _))
      have hEd : Ext wr wr.drew := (ExtX.refl wr).drew
      have htl := rqtakelistO (un X oo) wr.drew (.slice a1 m[i].length c1) m[i] hXu ⟨a1, c1, rfl, hcl1, hq1⟩ (by rw [hrl.out]; omega)
      obtain ⟨x, hx⟩ : ∃ x, m[i] = x := ⟨_, rfl⟩
      obtain ⟨v, hv⟩ : ∃ v, b[i] = v := ⟨_, rfl⟩
      rw [hx, hv] at htk
      rw [hx] at hrl htl hc1
      rw [hv] at hq4
      have hxl := hrl.out
      have hxc : x.length ≤ 96 := by omega
      have hob1 : ob oo (adr ua i).block = false := (un_false hX1).2
      have hob2 : ob oo g4 = false := (un_false hX4).2
      have hS : Hid (∀ Y W', ExtX Y wr.drew W' → Y (adr ua i).block = false → Y g4 = false → W'.cell? (adr ua i) = some (.slice a1 x.length c1) ∧ W'.cell? ⟨g4, o4, none⟩ = some (.bool s4) ∧ W'.cell? ⟨g4, o4 + 1, none⟩ = some (.slice a4 n4 c4) ∧ W'.cell? ⟨g4, o4 + 2, none⟩ = some (.slice d4 k4 e4)) := hid fun Y W' h hg hb => by
        have p4 := hc4.out Y W' ((ExtX.of hEd).trans h) hb
        exact ⟨hc1.out Y W' ((ExtX.of hEd).trans h) hg, p4.1, p4.2.1, p4.2.2⟩
      obtain ⟨k00, k10, k11, k12⟩ := hS.out noY wr.drew (ExtX.refl _) rfl rfl
      have i1 : ∀ W, (Instr.indexAt 23 (.slice ua n uca) (.int .i64 (i : Int))).run Tryz.prog W = .ok (.pointer (some (adr ua i))) W := run_ix1 slRats ua n uca .i64 i hhu (by omega) rfl
      have i2 : ∀ W, (Instr.indexAt 33 (.slice va n vca) (.int .i64 (i : Int))).run Tryz.prog W = .ok (.pointer (some ⟨g4, o4, none⟩)) W := by rw [← hg4]; exact run_indexAt_adr slRat va n vca .i64 i hhv (by omega)
      have hqd : QV (mk (un X oo) wr.drew) (.agg #[.bool s4, .slice a4 n4 c4, .slice d4 k4 e4]) v := hq4
      clear hc1 hc4 hx hv hge hq1 hg4 hrl hxl hcl1
      go_wp2_with fail
      go_region_held3 (fun w' => w'.cell? (adr ua i) = some (.slice a1 x.length c1) ∧ w'.cell? ⟨g4, o4, none⟩ = some (.bool s4) ∧ w'.cell? ⟨g4, o4 + 1, none⟩ = some (.slice a4 n4 c4) ∧ w'.cell? ⟨g4, o4 + 2, none⟩ = some (.slice d4 k4 e4))
        (first | exact hS.out (ob oo) _ ((ExtX.of tE8).trans hE9) hob1 hob2 | exact hS.out noY _ (ExtX.alloc tE8 _) rfl rfl | exact hS.out noY _ tE8 rfl rfl | exact hS.out noY _ (ExtX.alloc t12 _) rfl rfl | exact hS.out noY _ t12 rfl rfl | exact hS.out noY _ t1 rfl rfl | go_keep)
        (first | (go_at_call 78; (with_reducible refine htl.mono ?_); rintro ee w6 ⟨t1, ro, cr, rfl, hO6⟩; have hX6 := hXu.ext (hEd.trans t1); have hXX6 : HX (un (un X oo) ro) w6 := hO6.unX hX6; have hq6 := old_un QV.mono hqd t1 (fun j hj => hO6.ob_lt hj)) | (go_at_call 82; (with_reducible refine (rqtake (un (un X oo) ro) w6 _ v hXX6 hq6).mono ?_); rintro ee w7 ⟨t2, u7, rfl, hu7⟩; obtain ⟨s7, a7, n7, c7, d7, k7, e7, rfl⟩ := hu7.shape; have t12 := t1.trans t2; have hO7 := hO6.ext0 QC.elem t2; have hX7 := hX6.ext t2; have hb7 := t12.size) | (refine step_append1 (l := x) rfl (by rfl) slRat rfl QC.elem hb7 hX7 x.length rfl rfl rfl hO7 (.agg #[.bool s7, .slice a7 n7 c7, .slice d7 k7 e7]) v rfl hu7 (by omega) (by omega) ?_; intro ro2 cr2 w8 hO8 hE8 hor8; have tE8 : Ext wr.drew w8 := t12.own hO7 (Nat.le_refl _) hE8; have hOo8 := hO.ext0 RC.elem (hEd.trans tE8); have hRC8 : RC (mk (un X oo) w8) (.slice ro2 (x.length + 1) cr2) (x ++ [v]) := ⟨ro2, cr2, by rw [List.length_append]; rfl, hO8.lenCap, hO8.sl QC.elem⟩; have hX8 := hXr.ext (hEd.trans tE8); have hb8 := (hEd.trans tE8).size) | (refine step_append1 (l := W.take i) rfl (by rfl) slRats rfl RC.elem (Nat.le_trans hbase hb8) hX8 i hln.out rfl rfl hOo8 (.slice ro2 (x.length + 1) cr2) (x ++ [v]) rfl hRC8 (by omega) (by omega) ?_; intro oo2 co2 w9 hO9 hE9 hor9))
      have hE10 := (hE.trans (hEd.trans tE8)).own hOo8 (Nat.le_refl _) hE9
      rw [htk.out] at hO9
      clear k00 k10 k11 k12 i1 i2
      go_wp2_with fail
      go_roundw
      case rel => exact ⟨i + 1, oo2, co2, by go_num, by go_num, by omega, hO9, hE10⟩
      case measure => simp [intOf]; omega
    · have hil : i = n := by omega
      subst hil
      rw [List.take_of_length_le (by omega)] at hO
      have hc := hO.lenCap
      have hMC : MC (mk X wr) (.slice oo i co) W := ⟨oo, co, by rw [hWl.out], hc, hO.sl RC.elem⟩
      have h5 := hre.out wr hE _ hMC
      clear hO hMC
      go_wp2_with fail
      refine h5.mono ?_
      rintro e w6 ⟨hE6, ro, rco, po, pc, uf, rfl, hrco, hpc, hso, hsp, huf⟩
      dsimp only at hrco hso hpc hsp ⊢
      obtain ⟨s2, a2, n2, c2, d2, k2, e2, rfl⟩ := huf.shape
      have bx2 := Bx.new w6 #[.bool false, .slice none 0 0, .slice none 0 0] 31
      have hhr := hso.hd
      have hhp := hsp.hd
      obtain ⟨pl, hpl⟩ : ∃ pl, p'.length = pl := ⟨_, rfl⟩
      have hpl' := hid hpl
      rw [hRl.out] at hrco hhr ⊢
      rw [hpl] at hpc hhp hpn ⊢
      clear h5 huf hpl
      go_wp2_with (first | ((with_reducible show wpList _ _ _ (⟨_, .store _ _ _, _, _, _, _⟩ :: _) _ _); refine st_storeBox stRat rfl rfl bx2 rfl rfl (one3 _ _ _ _ _ _ _) ?_; intro w7 r3 r4; have hE7 : Ext w6 w7 := ExtX.box ((ExtX.refl w6).alloc _) r4 (Nat.le_refl _); have hE07 := hE.trans (hE6.trans hE7); have hX7 := hX.ext hE07) | ((with_reducible show wpList _ _ _ (⟨_, .makeSlice _ _ _, _, _, _, _⟩ :: _) _ _); refine st_make (R := QC) slRat QC.elem (0 : Rat) (fun _ => QC.zero _) X hX7 w7.heap.size (Nat.le_refl _) c rfl rfl rfl (by omega) (by omega) ?_; intro xo w8 hO8 hE8))
      have hE08 := hE07.trans hE8
      have hso7 := hso.mono RC.mono (mk_ext hE7)
      have hsp7 := hsp.mono (NatIn.mono _) (mk_ext hE7)
      have hdO : Hd xo c := by have := hO8.hd; rw [List.length_replicate] at this; exact this
      clear hso hsp bx2 r3
      go_loopw [13] (fun cc wr => ∃ (j : Nat), cc = .int .i64 j ∧ j ≤ pl ∧ OL QC 3 X w7.heap.size 31 wr xo c (sN R' p' c j) ∧ Hid (∀ k (hk : k < p'.length), k < j → p'[k] ≠ c) ∧ Ext w7 wr) (fun cc _ => pl - (intOf cc).toNat)
      case atStart => exact ⟨0, rfl, Nat.zero_le _, hO8, hid (fun k _ h => by omega), hE8⟩
      case round =>
        clear hO8 hE8
        obtain ⟨j, rfl, hj, hO, hne, hE⟩ := hrel
        have hXr : HX X wr := hX7.ext hE
        by_cases hlj : j < pl
        · have hjp : j < p'.length := by rw [hpl'.out]; exact hlj
          have hjR : j < R'.length := by rw [hRl.out]; omega
          have hsr : Sl RC 1 (mk (un X xo) wr) ro R' := hso7.old RC.mono hE (fun j hj => hO.ob_lt hj)
          have hspr : Sl (NatIn .i64) 1 (mk (un X xo) wr) po p' := hsp7.old (NatIn.mono _) hE (fun j hj => hO.ob_lt hj)
          have hcl := hspr.nat j hjp
          have hpc1 : Hid (p'[j] < c + 1) := hid (hRr.out.lt j hjp)
          have hgd : Hid (p'.getD j 0 = p'[j]) := hid (by simp [List.getD_eq_getElem?_getD, hjp])
          have hmem : Hid (p'[j] ∈ p') := hid (List.getElem_mem _)
          obtain ⟨q, hq⟩ : ∃ q, p'[j] = q := ⟨_, rfl⟩
          rw [hq] at hcl hpc1 hgd hmem
          have hq' := hid hq
          have i1 : ∀ W, (Instr.indexAt 22 (.slice po pl pc) (.int .i64 (j : Int))).run Tryz.prog W = .ok (.pointer (some (adr po j))) W := run_ix1 slInt po pl pc .i64 j hhp (by omega) rfl
          clear hq
          by_cases hqc : q = c
          · have hb : ((q : Int) == (c : Int)) = true := beqT (by omega)
            have hmem2 : Hid (c ∈ p') := hid (hqc ▸ hmem.out)
            clear hqc
            go_wp2_with fail
            go_ret2
            exact ⟨hE07.trans hE, .inl ⟨hmem2.out, rfl⟩⟩
          · have hb : ((q : Int) == (c : Int)) = false := beqF (by omega)
            have hqc1 : q < c := by have := hpc1.out; omega
            have hne2 : Hid (∀ k (hk : k < p'.length), k < j + 1 → p'[k] ≠ c) := hid fun k hk hkj => by
              by_cases h : k = j
              · subst h; rw [hq'.out]; exact hqc
              · exact hne.out k hk (by omega)
            obtain ⟨a1, c1, hX1, hc1, hcl1, hq1⟩ := hsr.row j hjR
            have hrl := hid (hRs.out.2 R'[j] (List.getElem_mem _))
            have hcR : c < R'[j].length := by rw [hrl.out]; omega
            have hev : Hid (R'[j][c] = ent R' j c) := hid (ent_at hjR hcR)
            obtain ⟨g4, o4, s4, a4, n4, c4, d4, k4, e4, hg4, hX4, hc4, hq4⟩ := hq1.rat QC.shaped c hcR
            rw [hev.out] at hq4
            have hh1 : Hd a1 (c + 1) := by have := hq1.hd; rw [hrl.out] at this; exact this
            have k00 := hc1.out noY wr (ExtX.refl _) rfl
            rw [hrl.out] at k00
            obtain ⟨k10, k11, k12⟩ := hc4.out noY wr (ExtX.refl _) rfl
            have hqO : q < (sN R' p' c j).length := by rw [sN_len]; exact hqc1
            have hsn : Hid ((sN R' p' c j).set q (ent R' j c) = sN R' p' c (j + 1)) := hid (by rw [← hgd.out]; rfl)
            obtain ⟨v, hv⟩ : ∃ v, ent R' j c = v := ⟨_, rfl⟩
            rw [hv] at hq4 hsn
            obtain ⟨g, o, hg⟩ : ∃ g o, adr xo (q * 3) = ⟨g, o, none⟩ := ⟨_, _, rfl⟩
            have i2 : ∀ W, (Instr.indexAt 23 (.slice ro i rco) (.int .i64 (j : Int))).run Tryz.prog W = .ok (.pointer (some (adr ro j))) W := run_ix1 slRats ro i rco .i64 j hhr (by omega) rfl
            have i3 : ∀ W, (Instr.indexAt 33 (.slice a1 (c + 1) c1) (.int .i64 (c : Int))).run Tryz.prog W = .ok (.pointer (some ⟨g4, o4, none⟩)) W := by rw [← hg4]; exact run_indexAt_adr slRat a1 (c + 1) c1 .i64 c hh1 (by omega)
            have i4 : ∀ W, (Instr.indexAt 33 (.slice xo c c) (.int .i64 (q : Int))).run Tryz.prog W = .ok (.pointer (some ⟨g, o, none⟩)) W := by rw [← hg]; exact run_indexAt_adr slRat xo c c .i64 q hdO (by omega)
            obtain ⟨_, v0, v1, v2, _, ⟨g0, f0⟩, ⟨g1, f1⟩, ⟨g2, f2⟩, _⟩ := hO.cell3 q hqO hg
            have hset := hO.set3 tyRat QC.elem q hqO hg (v0 := .bool s4) (v1 := .slice a4 n4 c4) (v2 := .slice d4 k4 e4) (x := v) hq4
            have hO' := hid hO
            clear hO hqc hv hc1 hc4 hg hg4 hq1 hq4 hcl1 hev
            go_wp2_with fail
            go_region
            all_goals
              obtain ⟨q1, q2⟩ := hset
              rw [hsn.out] at q1
              have q1d := q1.ext0 QC.elem ((ExtX.refl (Y := noY) _).drew)
              have hE9 := hE.own hO'.out (Nat.le_refl _) q2.drew
              clear k00 k10 k11 k12 g0 g1 g2 f0 f1 f2 i1 i2 i3 i4 hcl q1 q2
              go_wp2_with fail
              go_roundw
              case rel => exact ⟨j + 1, by go_num, by omega, q1d, hne2, hE9⟩
              case measure => simp [intOf]; omega
        · have hjl : j = pl := by omega
          subst hjl
          have hnp : c ∉ p' := fun hm => by
            obtain ⟨k, hk, hkc⟩ := List.getElem_of_mem hm
            exact hne.out k hk (by rw [← hpl'.out]; exact hk) hkc
          have hs := hO.sl QC.elem
          have hlc := hO.lenCap
          go_wp2_with fail
          go_ret2
          rw [← hpl'.out] at hs hlc
          exact ⟨hE07.trans hE, .inr ⟨hnp, .slice xo c c, rfl, xo, c, by show Value.slice xo c c = Value.slice xo (sN R' p' c p'.length).length c; rw [sN_len], hlc, hs⟩⟩
end Go.Proofs.YtjbhcniiioepgaaGreat


namespace Go.Lin
open Go.Lim
theorem piv_at {n c : Nat} {f : F2} {p : List Nat} (hr : Rref n c f p) {a j : Nat} (ha : a ≤ p.length) (hb : ∀ k (hk : k < p.length), k < a → p[k] < j) (hc : ∀ k (hk : k < p.length), a ≤ k → j ≤ p[k]) : (∀ h : a < p.length, p[a] = j → j ∈ p) ∧ ((∀ h : a < p.length, p[a] ≠ j) → j ∉ p) := by
  refine ⟨fun h e => e ▸ List.getElem_mem h, fun h hm => ?_⟩
  obtain ⟨k, hk, hkj⟩ := List.getElem_of_mem hm
  rcases Nat.lt_or_ge k a with h1 | h1
  · have := hb k hk h1; omega
  · rcases Nat.lt_or_ge a k with h2 | h2
    · have h3 := hc a (by omega) (Nat.le_refl _)
      have h4 := hr.inc a k h2 hk
      omega
    · have : k = a := by omega
      subst this; exact h hk hkj
end Go.Lin
namespace Go.Proofs.YtjbhcniiioepgaaGreat
open Go.RowKit Go.Rep Go.Lim Go.Lin

theorem rnull_no (X : Nat → Bool) (w : World) (u : Value) (m : List (List Rat)) (hu : MV (mk X w) u m) (hl : m.length ≤ 1099511627776) (hf : formedB m = false) : Calls Tryz.prog 56 #[u] w (fun e w' => Ext w w' ∧ e = .returned (.tuple #[.slice none 0 0, .int .i64 6])) := by
  have hre := rredu_no X w u m hu hl hf
  clear hf
  go_enter Tryz.func56, Tryz.ntmps56
  go_wp2_with fail
  refine hre.mono ?_
  rintro e w1 ⟨hE1, rfl⟩
  go_wp2_with fail
  go_ret2
  exact ⟨hE1, rfl⟩

set_option maxRecDepth 100000 in
set_option maxHeartbeats 1600000 in
theorem rnull_ok (X : Nat → Bool) (w : World) (u : Value) (m : List (List Rat)) (n c : Nat) (hX : HX X w) (hu : MV (mk X w) u m) (hf : formedB m = true) (hnn : m.length = n) (hcc : colsL m = c) (hT : TameR m c) : Calls Tryz.prog 56 #[u] w (M2Out X w (nullL (ent (redP m c).1) (redP m c).2 c)) := by
  obtain ⟨hsh, h96, hc96, hpos, _⟩ := formedB_shp hf
  rw [hnn, hcc] at hsh
  rw [hnn] at h96
  rw [hcc] at hc96
  have hcol := hid (fun w' (h : Ext w w') => rcolumns X w' u m (mkx MV.mono hu h))
  rw [hcc] at hcol
  have hre := rredu_ok X w u m n c hX hu hf hnn hcc hT
  have hok := redP_ok hsh
  have hred := red_eq hsh
  rw [← hred.1, ← hred.2] at hre
  obtain ⟨B, hB6, hBj⟩ := hT
  have hbm := (hBj c (Nat.le_refl _)).1
  rw [← hred.1] at hbm
  have hbm2 := hid (hb_bm hbm)
  have hB6' := hid hB6
  obtain ⟨⟨R, p⟩, hS⟩ : ∃ S, redP m c = S := ⟨_, rfl⟩
  rw [hS] at hre hok hbm2 ⊢
  dsimp only at hok hbm2 ⊢
  have hRs := hid hok.1
  have hRr := hid hok.2.1
  have hRl : Hid (R.length = n) := hid hRs.out.1
  have hpn : p.length ≤ n := hok.2.1.le
  have hfull : Hid (nullK (ent R) p c c = nullL (ent R) p c) := hid rfl
  clear hf hnn hcc hsh hok hS hred hB6 hBj hbm hpos
  go_enter Tryz.func56, Tryz.ntmps56
  go_wp2_with fail
  refine hre.mono ?_
  rintro e w1 ⟨hE1, ro, rco, po, pc, rfl, hrco, hpc, hso, hsp⟩
  dsimp only at hrco hso hpc hsp ⊢
  have hhr := hso.hd
  have hhp := hsp.hd
  obtain ⟨pl, hpl⟩ : ∃ pl, p.length = pl := ⟨_, rfl⟩
  have hpl' := hid hpl
  rw [hRl.out] at hrco hhr ⊢
  rw [hpl] at hpc hhp hpn ⊢
  have hX1 := hX.ext hE1
  clear hre hpl
  go_wp2_with fail
  go_loopw [7, 8, 9] (fun o aa cc wr => ∃ (k a q : Nat) (oo : Option Addr) (co : Nat), cc = .int .i64 k ∧ aa = .int .i64 a ∧ o = .slice oo q co ∧ k ≤ c ∧ q ≤ k ∧ a ≤ pl ∧ Hid ((nullK (ent R) p c k).length = q) ∧ Hid (∀ i (hi : i < p.length), i < a → p[i] < k) ∧ Hid (∀ i (hi : i < p.length), a ≤ i → k ≤ p[i]) ∧ OL RC 1 X w1.heap.size 33 wr oo co (nullK (ent R) p c k) ∧ Ext w1 wr) (fun _ _ cc _ => c - (intOf cc).toNat)
  case atStart => exact ⟨0, 0, 0, none, 0, rfl, rfl, rfl, Nat.zero_le _, Nat.le_refl _, Nat.zero_le _, hid rfl, hid (fun i _ h => by omega), hid (fun i _ _ => Nat.zero_le _), OL.nil _ _ _ _ _ _, ExtX.refl _⟩
  case round =>
    obtain ⟨k, a, q, oo, co, rfl, rfl, rfl, hk, hqk, ha, hlq, hlo, hhi, hO, hE⟩ := hrel
    have hXr : HX X wr := hX1.ext hE
    have hXu : HX (un X oo) wr := hO.unX hXr
    have hbase := hE.size
    have hcr := hcol.out wr (hE1.trans hE)
    by_cases hlt : k < c
    · have hpa := hid (piv_at hRr.out (a := a) (j := k) (by rw [hpl'.out]; exact ha) hlo.out hhi.out)
      -- the column is a pivot
      by_cases hpv : ∃ h : a < p.length, p[a] = k
      · obtain ⟨hap, hpk⟩ := hpv
        have hmem := hid (hpa.out.1 hap hpk)
        have hal : a < pl := by rw [hpl'.out] at hap; exact hap
        have hcl := (hsp.mono (NatIn.mono _) (mk_ext hE)).nat a hap
        rw [hpk] at hcl
        have i1 : ∀ W, (Instr.indexAt 22 (.slice po pl pc) (.int .i64 (a : Int))).run Tryz.prog W = .ok (.pointer (some (adr po a))) W := run_ix1 slInt po pl pc .i64 a hhp (by omega) rfl
        have hkk : ((k : Int) == (k : Int)) = true := beqT rfl
        have hskip := hid (nullK_skip (ent R) c hmem.out)
        have hlo2 : Hid (∀ i (hi : i < p.length), i < a + 1 → p[i] < k + 1) := hid fun i hi h => by
          by_cases e : i = a
          · subst e; omega
          · have := hlo.out i hi (by omega); omega
        have hhi2 : Hid (∀ i (hi : i < p.length), a + 1 ≤ i → k + 1 ≤ p[i]) := hid fun i hi h => by
          have := hRr.out.inc a i (by omega) hi; omega
        have hlq2 : Hid ((nullK (ent R) p c (k + 1)).length = q) := hid (by rw [hskip.out]; exact hlq.out)
        rw [← hskip.out] at hO
        clear hap hpk
        go_wp2_with fail
        refine hcr.mono ?_
        rintro e w2 ⟨rfl, rfl⟩
        clear hcr
        go_wp2_with fail
        go_roundw
        case rel => exact ⟨k + 1, a + 1, q, oo, co, by go_num, by go_num, rfl, by omega, by omega, by omega, hlq2, hlo2, hhi2, hO, hE⟩
        case measure => simp [intOf]; omega
      · have hnm := hid (hpa.out.2 fun h e => hpv ⟨h, e⟩)
        have hpush := hid (nullK_push (ent R) c hnm.out)
        have hxf := hid (xN_full hRr.out hnm.out)
        have hlo2 : Hid (∀ i (hi : i < p.length), i < a → p[i] < k + 1) := hid fun i hi h => by have := hlo.out i hi h; omega
        have hhi2 : Hid (∀ i (hi : i < p.length), a ≤ i → k + 1 ≤ p[i]) := hid fun i hi h => by
          have h1 := hhi.out i hi h
          have h2 : p[i] ≠ k := fun e => hnm.out (e ▸ List.getElem_mem hi)
          omega
        have hne : Hid (∀ h : a < p.length, p[a] ≠ k) := hid fun h e => hpv ⟨h, e⟩
        have hkr : k < (List.replicate c (0 : Rat)).length := by rw [List.length_replicate]; exact hlt
        clear hpv hpa
        by_cases hal : a < pl
        · have hap : a < p.length := by rw [hpl'.out]; exact hal
          have hcl := (hsp.mono (NatIn.mono _) (mk_ext hE)).nat a hap
          have hney := hid (hne.out hap)
          obtain ⟨y, hy⟩ : ∃ y, p[a] = y := ⟨_, rfl⟩
          rw [hy] at hcl hney
          have i1 : ∀ W, (Instr.indexAt 22 (.slice po pl pc) (.int .i64 (a : Int))).run Tryz.prog W = .ok (.pointer (some (adr po a))) W := run_ix1 slInt po pl pc .i64 a hhp (by omega) rfl
          have hkk : ((y : Int) == (k : Int)) = false := beqF (by have := hney.out; omega)
          clear hy
          go_wp2_with fail
          refine hcr.mono ?_
          rintro e w2 ⟨rfl, rfl⟩
          have hcr2 := hcol.out w2 (hE1.trans hE)
          clear hcr
          go_wp2_with fail
          clear hcl i1
          refine hcr2.mono ?_
          rintro e w3 ⟨rfl, rfl⟩
          clear hcr2
          go_wp2_with ((with_reducible show wpList _ _ _ (⟨_, .makeSlice _ _ _, _, _, _, _⟩ :: _) _ _); refine st_make (R := QC) slRat QC.elem (0 : Rat) (fun _ => QC.zero _) (un X oo) hXu w3.heap.size (Nat.le_refl _) c rfl rfl rfl (by omega) (by omega) ?_; intro xo w5 hO5 hE5)
          have hxd : Hd xo c := by have := hO5.hd; rw [List.length_replicate] at this; exact this
          have hXu5 := hXu.ext hE5
          have hZ5 := hO5.unX hXu5
          have hv1 : Hid ((((1 : Int) : Rat)) = 1) := hid rfl
          refine (rqfrom (un (un X oo) xo) w5 1 hZ5 (by decide) (by decide)).mono ?_
          rintro e w6 ⟨hE6, u6, rfl, hu6⟩
          rw [hv1.out] at hu6
          have hO6 := hO5.ext0 QC.elem hE6
          go_wp2_with (first | (with_reducible refine up_ixn slRat (by omega) (by assumption) ?_) | ((with_reducible show wpList _ _ _ (⟨_, .store 31 _ _, _, _, _, _⟩ :: _) _ _); refine st_store tyRat QC.elem k rfl (by simp) hO6 hkr _ 1 rfl hu6 ?_; intro w7 hO7 hE7))
          have hE47 : Ext w3 w7 := (hE5.trans hE6).own hO6 (Nat.le_refl _) hE7
          clear hO5 hO6
          go_loopw [11] (fun kk wi => ∃ (j : Nat), kk = .int .i64 j ∧ j ≤ pl ∧ OL QC 3 (un X oo) w3.heap.size 31 wi xo c (xN R p c k j) ∧ Ext w3 wi) (fun kk _ => pl - (intOf kk).toNat)
          case atStart => exact ⟨0, rfl, Nat.zero_le _, hO7, hE47⟩
          case round =>
            clear hO7 hE47 hE7
            obtain ⟨j, rfl, hj, hOx, hEx⟩ := hrel
            have hE2x := hE.trans hEx
            have hXux := hXu.ext hEx
            have hZr := hOx.unX hXux
            by_cases hlj : j < pl
            · have hjp : j < p.length := by rw [hpl'.out]; exact hlj
              have hjR : j < R.length := by rw [hRl.out]; omega
              have hsr : Sl RC 1 (mk (un (un X oo) xo) wr) ro R := (hso.old RC.mono hE (fun j hj => hO.ob_lt hj)).old RC.mono hEx (fun j hj => hOx.ob_lt hj)
              have hspr : Sl (NatIn .i64) 1 (mk (un (un X oo) xo) wr) po p := (hsp.old (NatIn.mono _) hE (fun j hj => hO.ob_lt hj)).old (NatIn.mono _) hEx (fun j hj => hOx.ob_lt hj)
              have hpcl : Hid (∀ Y W', ExtX Y wr.drew W' → Y (adr po j).block = false → W'.cell? (adr po j) = some (.int .i64 (p[j] : Int))) := hid fun Y W' h hy => ((ExtX.of (ExtX.refl (Y := noY) wr).drew).trans h).cellY (hspr.nat j hjp) hy
              have hXp : (un (un X oo) xo) (adr po j).block = false := by
                obtain ⟨u, h1, _⟩ := hspr.cell (NatIn.one _) j hjp
                cases hx : (un (un X oo) xo) (adr po j).block
                · rfl
                · simp [mk, hx] at h1
              have hpc1 : Hid (p[j] < c) := hid (hRr.out.lt j hjp)
              have hgd : Hid (p.getD j 0 = p[j]) := hid (by simp [List.getD_eq_getElem?_getD, hjp])
              obtain ⟨y, hy⟩ : ∃ y, p[j] = y := ⟨_, rfl⟩
              rw [hy] at hpcl hpc1 hgd
              have hyc : y < c := hpc1.out
              obtain ⟨a1, c1, hX1', hc1, hcl1, hq1⟩ := hsr.row j hjR
              have hrl : Hid (R[j].length = c) := hid (hRs.out.2 R[j] (List.getElem_mem _))
              have hkR : k < R[j].length := by rw [hrl.out]; exact hlt
              have hev : Hid (R[j][k] = ent R j k) := hid (ent_at hjR hkR)
              have hbk := hid (hbm2.out R[j] (List.getElem_mem _) R[j][k] (List.getElem_mem _))
              obtain ⟨g4, o4, s4, a4, n4, c4, d4, k4, e4, hg4, hX4, hc4, hq4⟩ := hq1.rat QC.shaped k hkR
              rw [hev.out] at hq4 hbk
              have hh1 : Hd a1 c := by have := hq1.hd; rw [hrl.out] at this; exact this
              have hyx : y < (xN R p c k j).length := by rw [xN_len]; exact hyc
              have hst : Hid ((xN R p c k j).set y (- ent R j k) = xN R p c k (j + 1)) := hid (by rw [← hgd.out]; rfl)
              obtain ⟨v, hv⟩ : ∃ v, ent R j k = v := ⟨_, rfl⟩
              rw [hv] at hq4 hbk hst
              have hEd : Ext wr wr.drew := (ExtX.refl wr).drew
              rw [hrl.out] at hc1
              have hob1 : ob xo (adr po j).block = false := (un_false hXp).2
              have hob2 : ob xo (adr ro j).block = false := (un_false hX1').2
              have hob3 : ob xo g4 = false := (un_false hX4).2
              have hS : Hid (∀ Y W', ExtX Y wr.drew W' → Y (adr po j).block = false → Y (adr ro j).block = false → Y g4 = false → W'.cell? (adr po j) = some (.int .i64 (y : Int)) ∧ W'.cell? (adr ro j) = some (.slice a1 c c1) ∧ W'.cell? ⟨g4, o4, none⟩ = some (.bool s4) ∧ W'.cell? ⟨g4, o4 + 1, none⟩ = some (.slice a4 n4 c4) ∧ W'.cell? ⟨g4, o4 + 2, none⟩ = some (.slice d4 k4 e4)) := hid fun Y W' h y1 y2 y3 => by
                have p4 := hc4.out Y W' ((ExtX.of hEd).trans h) y3
                exact ⟨hpcl.out Y W' h y1, hc1.out Y W' ((ExtX.of hEd).trans h) y2, p4.1, p4.2.1, p4.2.2⟩
              obtain ⟨k00, k01, k10, k11, k12⟩ := hS.out noY wr.drew (ExtX.refl _) rfl rfl rfl
              have i1 : ∀ W, (Instr.indexAt 22 (.slice po pl pc) (.int .i64 (j : Int))).run Tryz.prog W = .ok (.pointer (some (adr po j))) W := run_ix1 slInt po pl pc .i64 j hhp (by omega) rfl
              have i2 : ∀ W, (Instr.indexAt 23 (.slice ro n rco) (.int .i64 (j : Int))).run Tryz.prog W = .ok (.pointer (some (adr ro j))) W := run_ix1 slRats ro n rco .i64 j hhr (by omega) rfl
              have i3 : ∀ W, (Instr.indexAt 33 (.slice a1 c c1) (.int .i64 (k : Int))).run Tryz.prog W = .ok (.pointer (some ⟨g4, o4, none⟩)) W := by rw [← hg4]; exact run_indexAt_adr slRat a1 c c1 .i64 k hh1 (by omega)
              obtain ⟨g, o, hg⟩ : ∃ g o, adr xo (y * 3) = ⟨g, o, none⟩ := ⟨_, _, rfl⟩
              have hg' := hid hg
              have i4 : ∀ W, (Instr.indexAt 33 (.slice xo c c) (.int .i64 (y : Int))).run Tryz.prog W = .ok (.pointer (some ⟨g, o, none⟩)) W := by rw [← hg]; exact run_indexAt_adr slRat xo c c .i64 y hxd (by omega)
              have hqd : QV (mk (un (un X oo) xo) wr.drew) (.agg #[.bool s4, .slice a4 n4 c4, .slice d4 k4 e4]) v := hq4.qv (by have := hbk.out; have := hB6'.out; omega)
              have hZd : HX (un (un X oo) xo) wr.drew := hZr
              have hOd := hOx.ext0 QC.elem hEd
              clear hy hv hc1 hc4 hg hg4 hq1 hq4 hpcl hrl hev
              go_wp2_with fail
              go_region_held3 (fun w' => w'.cell? (adr po j) = some (.int .i64 (y : Int)) ∧ w'.cell? (adr ro j) = some (.slice a1 c c1) ∧ w'.cell? ⟨g4, o4, none⟩ = some (.bool s4) ∧ w'.cell? ⟨g4, o4 + 1, none⟩ = some (.slice a4 n4 c4) ∧ w'.cell? ⟨g4, o4 + 2, none⟩ = some (.slice d4 k4 e4))
                (first | exact hS.out (ob xo) _ ((ExtX.of t1).trans hset.2) hob1 hob2 hob3 | exact hS.out noY _ t1 rfl rfl rfl | go_keep)
                ((go_at_call 112; (with_reducible refine (rqneg (un (un X oo) xo) wr.drew _ v hZd hqd).mono ?_); rintro ee w9 ⟨t1, u9, rfl, hu9⟩; obtain ⟨s9, a9, n9, c9, d9, k9, e9, rfl⟩ := hu9.shape; have hO9 := hOd.ext0 QC.elem t1; obtain ⟨_, v0, v1, v2, _, ⟨g0, f0⟩, ⟨g1, f1⟩, ⟨g2, f2⟩, _⟩ := hO9.cell3 y hyx hg'.out; have hset := hO9.set3 tyRat QC.elem y hyx hg'.out (v0 := .bool s9) (v1 := .slice a9 n9 c9) (v2 := .slice d9 k9 e9) (x := -v) hu9))
              obtain ⟨q1, q2⟩ := hset
              rw [hst.out] at q1
              have hEx2 := (hEx.trans (hEd.trans t1)).own hO9 (Nat.le_refl _) q2
              clear k00 k01 k10 k11 k12 i1 i2 i3 i4 g0 g1 g2 f0 f1 f2 q2
              go_wp2_with fail
              go_roundw
              case rel => exact ⟨j + 1, by go_num, by omega, q1, hEx2⟩
              case measure => simp [intOf]; omega
            · have hjl : j = pl := by omega
              have hxf2 : Hid (xN R p c k j = (List.range c).map (nv (ent R) p k)) := hid (by rw [hjl, ← hpl'.out]; exact hxf.out)
              rw [hxf2.out] at hOx
              obtain ⟨L, hL⟩ : ∃ L, (List.range c).map (nv (ent R) p k) = L := ⟨_, rfl⟩
              rw [hL] at hOx hpush
              have hLl : Hid (L.length = c) := hid (by rw [← hL]; simp)
              have hsx := hOx.sl QC.elem
              have hlc := hOx.lenCap
              have hOw := hO.ext0 RC.elem hEx
              have hszx := hEx.size
              clear hL
              go_wp2_with (at_builtin; refine st_append1n (l := nullK (ent R) p c k) slRats rfl RC.elem (by omega) (hXr.ext hEx) q hlq.out rfl rfl hOw (.slice xo c c) L rfl ⟨xo, c, by rw [hLl.out], hlc, hsx⟩ (by omega) (by omega) ?_; intro oo2 co2 w11 hO11 hE11 hor)
              have hE12 := (hE.trans hEx).own hOw (Nat.le_refl _) hE11
              rw [← hpush.out] at hO11
              have hlq2 : Hid ((nullK (ent R) p c (k + 1)).length = q + 1) := hid (by rw [hpush.out, List.length_append, hlq.out]; rfl)
              go_roundw
              case rel => exact ⟨k + 1, a, q + 1, oo2, co2, by go_num, rfl, by go_num, by omega, by omega, ha, hlq2, hlo2, hhi2, hO11, hE12⟩
              case measure => simp [intOf]; omega
        · go_wp2_with fail
          refine hcr.mono ?_
          rintro e w2 ⟨rfl, rfl⟩
          have hcr2 := hcol.out w2 (hE1.trans hE)
          clear hcr
          go_wp2_with fail
          refine hcr2.mono ?_
          rintro e w3 ⟨rfl, rfl⟩
          clear hcr2
          go_wp2_with ((with_reducible show wpList _ _ _ (⟨_, .makeSlice _ _ _, _, _, _, _⟩ :: _) _ _); refine st_make (R := QC) slRat QC.elem (0 : Rat) (fun _ => QC.zero _) (un X oo) hXu w3.heap.size (Nat.le_refl _) c rfl rfl rfl (by omega) (by omega) ?_; intro xo w5 hO5 hE5)
          have hxd : Hd xo c := by have := hO5.hd; rw [List.length_replicate] at this; exact this
          have hXu5 := hXu.ext hE5
          have hZ5 := hO5.unX hXu5
          have hv1 : Hid ((((1 : Int) : Rat)) = 1) := hid rfl
          refine (rqfrom (un (un X oo) xo) w5 1 hZ5 (by decide) (by decide)).mono ?_
          rintro e w6 ⟨hE6, u6, rfl, hu6⟩
          rw [hv1.out] at hu6
          have hO6 := hO5.ext0 QC.elem hE6
          go_wp2_with (first | (with_reducible refine up_ixn slRat (by omega) (by assumption) ?_) | ((with_reducible show wpList _ _ _ (⟨_, .store 31 _ _, _, _, _, _⟩ :: _) _ _); refine st_store tyRat QC.elem k rfl (by simp) hO6 hkr _ 1 rfl hu6 ?_; intro w7 hO7 hE7))
          have hE47 : Ext w3 w7 := (hE5.trans hE6).own hO6 (Nat.le_refl _) hE7
          clear hO5 hO6
          go_loopw [11] (fun kk wi => ∃ (j : Nat), kk = .int .i64 j ∧ j ≤ pl ∧ OL QC 3 (un X oo) w3.heap.size 31 wi xo c (xN R p c k j) ∧ Ext w3 wi) (fun kk _ => pl - (intOf kk).toNat)
          case atStart => exact ⟨0, rfl, Nat.zero_le _, hO7, hE47⟩
          case round =>
            clear hO7 hE47 hE7
            obtain ⟨j, rfl, hj, hOx, hEx⟩ := hrel
            have hE2x := hE.trans hEx
            have hXux := hXu.ext hEx
            have hZr := hOx.unX hXux
            by_cases hlj : j < pl
            · have hjp : j < p.length := by rw [hpl'.out]; exact hlj
              have hjR : j < R.length := by rw [hRl.out]; omega
              have hsr : Sl RC 1 (mk (un (un X oo) xo) wr) ro R := (hso.old RC.mono hE (fun j hj => hO.ob_lt hj)).old RC.mono hEx (fun j hj => hOx.ob_lt hj)
              have hspr : Sl (NatIn .i64) 1 (mk (un (un X oo) xo) wr) po p := (hsp.old (NatIn.mono _) hE (fun j hj => hO.ob_lt hj)).old (NatIn.mono _) hEx (fun j hj => hOx.ob_lt hj)
              have hpcl : Hid (∀ Y W', ExtX Y wr.drew W' → Y (adr po j).block = false → W'.cell? (adr po j) = some (.int .i64 (p[j] : Int))) := hid fun Y W' h hy => ((ExtX.of (ExtX.refl (Y := noY) wr).drew).trans h).cellY (hspr.nat j hjp) hy
              have hXp : (un (un X oo) xo) (adr po j).block = false := by
                obtain ⟨u, h1, _⟩ := hspr.cell (NatIn.one _) j hjp
                cases hx : (un (un X oo) xo) (adr po j).block
                · rfl
                · simp [mk, hx] at h1
              have hpc1 : Hid (p[j] < c) := hid (hRr.out.lt j hjp)
              have hgd : Hid (p.getD j 0 = p[j]) := hid (by simp [List.getD_eq_getElem?_getD, hjp])
              obtain ⟨y, hy⟩ : ∃ y, p[j] = y := ⟨_, rfl⟩
              rw [hy] at hpcl hpc1 hgd
              have hyc : y < c := hpc1.out
              obtain ⟨a1, c1, hX1', hc1, hcl1, hq1⟩ := hsr.row j hjR
              have hrl : Hid (R[j].length = c) := hid (hRs.out.2 R[j] (List.getElem_mem _))
              have hkR : k < R[j].length := by rw [hrl.out]; exact hlt
              have hev : Hid (R[j][k] = ent R j k) := hid (ent_at hjR hkR)
              have hbk := hid (hbm2.out R[j] (List.getElem_mem _) R[j][k] (List.getElem_mem _))
              obtain ⟨g4, o4, s4, a4, n4, c4, d4, k4, e4, hg4, hX4, hc4, hq4⟩ := hq1.rat QC.shaped k hkR
              rw [hev.out] at hq4 hbk
              have hh1 : Hd a1 c := by have := hq1.hd; rw [hrl.out] at this; exact this
              have hyx : y < (xN R p c k j).length := by rw [xN_len]; exact hyc
              have hst : Hid ((xN R p c k j).set y (- ent R j k) = xN R p c k (j + 1)) := hid (by rw [← hgd.out]; rfl)
              obtain ⟨v, hv⟩ : ∃ v, ent R j k = v := ⟨_, rfl⟩
              rw [hv] at hq4 hbk hst
              have hEd : Ext wr wr.drew := (ExtX.refl wr).drew
              rw [hrl.out] at hc1
              have hob1 : ob xo (adr po j).block = false := (un_false hXp).2
              have hob2 : ob xo (adr ro j).block = false := (un_false hX1').2
              have hob3 : ob xo g4 = false := (un_false hX4).2
              have hS : Hid (∀ Y W', ExtX Y wr.drew W' → Y (adr po j).block = false → Y (adr ro j).block = false → Y g4 = false → W'.cell? (adr po j) = some (.int .i64 (y : Int)) ∧ W'.cell? (adr ro j) = some (.slice a1 c c1) ∧ W'.cell? ⟨g4, o4, none⟩ = some (.bool s4) ∧ W'.cell? ⟨g4, o4 + 1, none⟩ = some (.slice a4 n4 c4) ∧ W'.cell? ⟨g4, o4 + 2, none⟩ = some (.slice d4 k4 e4)) := hid fun Y W' h y1 y2 y3 => by
                have p4 := hc4.out Y W' ((ExtX.of hEd).trans h) y3
                exact ⟨hpcl.out Y W' h y1, hc1.out Y W' ((ExtX.of hEd).trans h) y2, p4.1, p4.2.1, p4.2.2⟩
              obtain ⟨k00, k01, k10, k11, k12⟩ := hS.out noY wr.drew (ExtX.refl _) rfl rfl rfl
              have i1 : ∀ W, (Instr.indexAt 22 (.slice po pl pc) (.int .i64 (j : Int))).run Tryz.prog W = .ok (.pointer (some (adr po j))) W := run_ix1 slInt po pl pc .i64 j hhp (by omega) rfl
              have i2 : ∀ W, (Instr.indexAt 23 (.slice ro n rco) (.int .i64 (j : Int))).run Tryz.prog W = .ok (.pointer (some (adr ro j))) W := run_ix1 slRats ro n rco .i64 j hhr (by omega) rfl
              have i3 : ∀ W, (Instr.indexAt 33 (.slice a1 c c1) (.int .i64 (k : Int))).run Tryz.prog W = .ok (.pointer (some ⟨g4, o4, none⟩)) W := by rw [← hg4]; exact run_indexAt_adr slRat a1 c c1 .i64 k hh1 (by omega)
              obtain ⟨g, o, hg⟩ : ∃ g o, adr xo (y * 3) = ⟨g, o, none⟩ := ⟨_, _, rfl⟩
              have hg' := hid hg
              have i4 : ∀ W, (Instr.indexAt 33 (.slice xo c c) (.int .i64 (y : Int))).run Tryz.prog W = .ok (.pointer (some ⟨g, o, none⟩)) W := by rw [← hg]; exact run_indexAt_adr slRat xo c c .i64 y hxd (by omega)
              have hqd : QV (mk (un (un X oo) xo) wr.drew) (.agg #[.bool s4, .slice a4 n4 c4, .slice d4 k4 e4]) v := hq4.qv (by have := hbk.out; have := hB6'.out; omega)
              have hZd : HX (un (un X oo) xo) wr.drew := hZr
              have hOd := hOx.ext0 QC.elem hEd
              clear hy hv hc1 hc4 hg hg4 hq1 hq4 hpcl hrl hev
              go_wp2_with fail
              go_region_held3 (fun w' => w'.cell? (adr po j) = some (.int .i64 (y : Int)) ∧ w'.cell? (adr ro j) = some (.slice a1 c c1) ∧ w'.cell? ⟨g4, o4, none⟩ = some (.bool s4) ∧ w'.cell? ⟨g4, o4 + 1, none⟩ = some (.slice a4 n4 c4) ∧ w'.cell? ⟨g4, o4 + 2, none⟩ = some (.slice d4 k4 e4))
                (first | exact hS.out (ob xo) _ ((ExtX.of t1).trans hset.2) hob1 hob2 hob3 | exact hS.out noY _ t1 rfl rfl rfl | go_keep)
                ((go_at_call 112; (with_reducible refine (rqneg (un (un X oo) xo) wr.drew _ v hZd hqd).mono ?_); rintro ee w9 ⟨t1, u9, rfl, hu9⟩; obtain ⟨s9, a9, n9, c9, d9, k9, e9, rfl⟩ := hu9.shape; have hO9 := hOd.ext0 QC.elem t1; obtain ⟨_, v0, v1, v2, _, ⟨g0, f0⟩, ⟨g1, f1⟩, ⟨g2, f2⟩, _⟩ := hO9.cell3 y hyx hg'.out; have hset := hO9.set3 tyRat QC.elem y hyx hg'.out (v0 := .bool s9) (v1 := .slice a9 n9 c9) (v2 := .slice d9 k9 e9) (x := -v) hu9))
              obtain ⟨q1, q2⟩ := hset
              rw [hst.out] at q1
              have hEx2 := (hEx.trans (hEd.trans t1)).own hO9 (Nat.le_refl _) q2
              clear k00 k01 k10 k11 k12 i1 i2 i3 i4 g0 g1 g2 f0 f1 f2 q2
              go_wp2_with fail
              go_roundw
              case rel => exact ⟨j + 1, by go_num, by omega, q1, hEx2⟩
              case measure => simp [intOf]; omega
            · have hjl : j = pl := by omega
              have hxf2 : Hid (xN R p c k j = (List.range c).map (nv (ent R) p k)) := hid (by rw [hjl, ← hpl'.out]; exact hxf.out)
              rw [hxf2.out] at hOx
              obtain ⟨L, hL⟩ : ∃ L, (List.range c).map (nv (ent R) p k) = L := ⟨_, rfl⟩
              rw [hL] at hOx hpush
              have hLl : Hid (L.length = c) := hid (by rw [← hL]; simp)
              have hsx := hOx.sl QC.elem
              have hlc := hOx.lenCap
              have hOw := hO.ext0 RC.elem hEx
              have hszx := hEx.size
              clear hL
              go_wp2_with (at_builtin; refine st_append1n (l := nullK (ent R) p c k) slRats rfl RC.elem (by omega) (hXr.ext hEx) q hlq.out rfl rfl hOw (.slice xo c c) L rfl ⟨xo, c, by rw [hLl.out], hlc, hsx⟩ (by omega) (by omega) ?_; intro oo2 co2 w11 hO11 hE11 hor)
              have hE12 := (hE.trans hEx).own hOw (Nat.le_refl _) hE11
              rw [← hpush.out] at hO11
              have hlq2 : Hid ((nullK (ent R) p c (k + 1)).length = q + 1) := hid (by rw [hpush.out, List.length_append, hlq.out]; rfl)
              go_roundw
              case rel => exact ⟨k + 1, a, q + 1, oo2, co2, by go_num, rfl, by go_num, by omega, by omega, ha, hlq2, hlo2, hhi2, hO11, hE12⟩
              case measure => simp [intOf]; omega
    · have hkc : k = c := by omega
      subst hkc
      go_wp2_with fail
      refine hcr.mono ?_
      rintro e w2 ⟨rfl, rfl⟩
      rw [hfull.out] at hO hlq
      have hc := hO.lenCap
      have hs := hO.sl RC.elem
      go_wp2_with fail
      go_ret2
      exact ⟨hE1.trans hE, .slice oo q co, rfl, oo, co, by rw [hlq.out], hc, hs⟩
end Go.Proofs.YtjbhcniiioepgaaGreat


namespace Go.Lin
open Go.Lim
theorem br_of {l : List Rat} {B : Nat} (h : ∀ x, x < l.length → hq (l.getD x 0) ≤ B) : Go.Rep.BR B l := fun q hq => by
  obtain ⟨x, hx, rfl⟩ := List.getElem_of_mem hq
  have := h x hx
  rwa [List.getD_eq_getElem?_getD, List.getElem?_eq_getElem hx] at this
theorem br_get {l : List Rat} {B : Nat} (h : Go.Rep.BR B l) (hB : 1 ≤ B) (x : Nat) : hq (l.getD x 0) ≤ B := by
  by_cases hx : x < l.length
  · rw [List.getD_eq_getElem?_getD, List.getElem?_eq_getElem hx]; exact h _ (List.getElem_mem _)
  · rw [List.getD_eq_getElem?_getD, List.getElem?_eq_none (by omega)]
    show hq 0 ≤ B
    rw [hq_zero]; exact hB
theorem pow35' {k : Nat} (hk : k ≤ 4) : 35 ^ k ≤ 1500625 := Nat.le_trans (Nat.pow_le_pow_right (by omega) hk) (by decide)
theorem wideB_hb {m : Mat} {b : List Rat} {n c B : Nat} (hs : Shp n c m) (hm : HB B m) (hb : Go.Rep.BR B b) : HB B (wideB m b n) := fun i j => by
  have h1 := hm.pos
  by_cases hi : i < n
  · by_cases hj : j < c + 1
    · rw [ent_wideB hs i hi j hj]; unfold wideF
      split
      · exact br_get hb h1 i
      · exact hm i j
    · rw [ent_out (wideB_shp hs) (.inr (by omega)), hq_zero]; exact h1
  · rw [ent_out (wideB_shp (b := b) hs) (.inl (by omega)), hq_zero]; exact h1
theorem sol_len (R : Mat) (p : List Nat) (c : Nat) : (solL R p c).length = c := sN_len _ _ _ _
theorem sol_br {m : Mat} {b : List Rat} {n c B : Nat} (hs : Shp n c m) (hm : HB B m) (hb : Go.Rep.BR B b) : Go.Rep.BR (35 ^ n * B) (solL (redP (wideB m b n) (c + 1)).1 (redP (wideB m b n) (c + 1)).2 c) := br_of fun x hx => by
  obtain ⟨_, h2, _⟩ := redP_ok (wideB_shp (b := b) hs)
  have h5 := hb_redP (wideB_hb hs hm hb) (wideB_shp hs)
  rw [sol_len] at hx
  rw [solL_get h2 x hx]
  unfold solX
  split
  · exact h5 _ _
  · rw [hq_zero]; exact h5.pos
/-- The null vectors are null vectors. -/
theorem null_main {m : Mat} {n c B : Nat} (hs : Shp n c m) (hm : HB B m) : ∀ l ∈ nullL (ent (redP m c).1) (redP m c).2 c, l.length = c ∧ Go.Rep.BR (35 ^ n * B) l ∧ ∀ i, i < n → sm c (fun j => ent m i j * l.getD j 0) = 0 := fun l hl => by
  obtain ⟨j, hj, rfl⟩ := List.mem_map.1 hl
  rw [List.mem_filter, List.mem_range] at hj
  obtain ⟨_, h2, d, h3⟩ := redP_ok hs
  have h5 := hb_redP hm hs
  have hjp : j ∉ (redP m c).2 := by simpa using hj.2
  have hg : ∀ x, x < c → ((List.range c).map (nv (ent (redP m c).1) (redP m c).2 j)).getD x 0 = nv (ent (redP m c).1) (redP m c).2 j x := fun x hx => by simp [List.getD_eq_getElem?_getD, hx]
  refine ⟨by simp, br_of fun x hx => ?_, fun i hi => ?_⟩
  · rw [hg x (by simpa using hx)]
    unfold nv
    split
    · exact Nat.le_trans (show hq (1 : Rat) ≤ 1 by decide +kernel) h5.pos
    · split
      · rw [hq_neg]; exact h5 _ _
      · rw [hq_zero]; exact h5.pos
  · rw [sm_congr fun x hx => by rw [hg x hx]]
    exact (h3.nul _).2 (h2.nv_nul hjp hj.1) i hi
end Go.Lin

