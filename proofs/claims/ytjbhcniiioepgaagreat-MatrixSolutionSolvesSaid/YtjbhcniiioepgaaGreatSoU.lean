/- matrix: Solve. Conditions: few rows, numbers of few digits. matrix: Reduce. Conditions: few rows and columns, numbers of at most 2^36 digits. matrix: Null; slices.Contains. Conditions: few rows and columns, numbers of few digits. What Solve and Null return, for law 06. Conditions: at most four rows and columns. made: Vector. Conditions: few columns. -/
import Derived.Test.YtjbhcniiioepgaaGreatSoT
namespace Go.Proofs.YtjbhcniiioepgaaGreat
open Go.RowKit Go.Rep Go.Lim Go.Lin

/-- What Solve returns. -/
def SolOut (X : Nat → Bool) (w : World) (S : Mat × List Nat) (c : Nat) (e : Ending) (w' : World) : Prop := Ext w w' ∧ ((c ∈ S.2 ∧ e = .returned (.tuple #[.slice none 0 0, .int .i64 11])) ∨ (c ∉ S.2 ∧ ∃ u, e = .returned (.tuple #[u, .int .i64 0]) ∧ RC (mk X w') u (solL S.1 S.2 c)))

theorem solve_no (X : Nat → Bool) (w : World) (u v : Value) (m : List (List Rat)) (hu : MV (mk X w) u m) (hl : m.length ≤ 1099511627776) (hf : formedB m = false) : Calls Tryz.prog 53 #[u, v] w (fun e w' => w' = w ∧ e = .returned (.tuple #[.slice none 0 0, .int .i64 6])) := by
  have hfo := formed_any X w u m hu hl
  rw [hf] at hfo
  clear hf
  go_enter Tryz.func53, Tryz.ntmps53
  go_wp2_with fail
  refine hfo.mono ?_
  rintro e w1 ⟨rfl, rfl⟩
  go_wp2_with fail
  go_ret2
  exact ⟨rfl, rfl⟩

theorem solve_no2 (X : Nat → Bool) (w : World) (u v : Value) (m : List (List Rat)) (b : List Rat) (hu : MV (mk X w) u m) (hv : RV (mk X w) v b) (hf : formedB m = true) (hb : b.length ≠ m.length) : Calls Tryz.prog 53 #[u, v] w (fun e w' => w' = w ∧ e = .returned (.tuple #[.slice none 0 0, .int .i64 6])) := by
  obtain ⟨hsh, h96, hc96, _, _⟩ := formedB_shp hf
  have hfo := formed_any X w u m hu (by omega)
  rw [hf] at hfo
  obtain ⟨ua, uca, rfl, huca, hua⟩ := hu
  obtain ⟨va, vca, rfl, hvca, hva⟩ := hv
  have hne : ((b.length : Int) != (m.length : Int)) = true := bneT (by omega)
  clear hf
  go_enter Tryz.func53, Tryz.ntmps53
  go_wp2_with fail
  refine hfo.mono ?_
  rintro e w1 ⟨rfl, rfl⟩
  go_wp2_with fail
  go_ret2
  exact ⟨rfl, rfl⟩

set_option maxRecDepth 100000 in
set_option maxHeartbeats 1600000 in
theorem solve_ok (X : Nat → Bool) (w : World) (u v : Value) (m : List (List Rat)) (b : List Rat) (n c : Nat) (hX : HX X w) (hu : MV (mk X w) u m) (hv : RV (mk X w) v b) (hf : formedB m = true) (hnn : m.length = n) (hcc : colsL m = c) (hbl : b.length = n) (hT : Tame (wideB m b n) (c + 1)) : Calls Tryz.prog 53 #[u, v] w (SolOut X w (redP (wideB m b n) (c + 1)) c) := by
  obtain ⟨hsh, h96, hc96, hpos, _⟩ := formedB_shp hf
  rw [hnn, hcc] at hsh
  rw [hnn] at h96 hpos
  rw [hcc] at hc96 hpos
  have hfo := formed_any X w u m hu (by omega)
  rw [hf] at hfo
  have hcol := columns_any X w u m hu
  rw [hcc] at hcol
  have hsh' := hid hsh
  have hnn' := hid hnn
  have hcc' := hid hcc
  have hbl' := hid hbl
  have hWs := hid (wideB_shp (b := b) hsh)
  have hwg : Hid (∀ i (h : i < (wideB m b n).length) (hi : i < m.length) (hb : i < b.length), (wideB m b n)[i] = m[i] ++ [b[i]]) := hid fun i h hi hb => wideB_get h hi hb
  have hWc : 0 < n → colsL (wideB m b n) = c + 1 := fun h => shpc (wideB_shp (b := b) hsh) h
  obtain ⟨W, hW⟩ : ∃ W, wideB m b n = W := ⟨_, rfl⟩
  rw [hW] at hWs hT hwg hWc ⊢
  have hTt := hid (tame_cols hWs.out (colsL W) hWc hT)
  have hRc := hid (redP_cols hWs.out (colsL W) hWc)
  have hWcs : Hid (Shp n (colsL W) W) := hid ⟨hWs.out.1, fun r hr => by
    have := List.length_pos_of_mem hr
    rw [hWc (by rw [← hWs.out.1]; exact this)]; exact hWs.out.2 r hr⟩
  have hWc9 : Hid (colsL W ≤ 900) := hid (by
    by_cases h0 : 0 < n
    · rw [hWc h0]; omega
    · have : W = [] := List.eq_nil_of_length_eq_zero (by rw [hWs.out.1]; omega)
      subst this; exact Nat.zero_le _)
  obtain ⟨ua, uca, rfl, huca, hua⟩ := hu
  have hu : MV (mk X w) (.slice ua m.length uca) m := ⟨ua, uca, rfl, huca, hua⟩
  obtain ⟨va, vca, rfl, hvca, hva⟩ := hv
  have hhv := hva.hd
  rw [hnn] at hfo hcol hu ⊢
  rw [hbl] at hvca hhv ⊢
  have hw2 : wrap64 ((c : Int) + 1) = ((c + 1 : Nat) : Int) := by rw [IntWalk.wrap64_in _ (by omega)]; omega
  have hneq : ((n : Int) != (n : Int)) = false := bneF rfl
  clear hf hnn hcc hsh huca hua hW hT hWc hbl
  go_enter Tryz.func53, Tryz.ntmps53
  go_wp2_with fail
  refine hfo.mono ?_
  rintro e w1 ⟨rfl, rfl⟩
  go_wp2_with fail
  refine hcol.mono ?_
  rintro e w2 ⟨rfl, rfl⟩
  go_wp2_with fail
  refine (zero_any X w2 n (c + 1) hX (by omega) (by omega)).mono ?_
  rintro e w3 ⟨hE3, ao, cap, hs, rfl, hM3⟩
  rw [List.length_replicate]
  have hlen : Hid (hs.length = n) := hid (by rw [hM3.len]; simp)
  have hhO : Hd ao n := by have := hM3.outer.hd; rw [hlen.out] at this; exact this
  have hX3 := hX.ext hE3
  have hZ3 := hM3.hz hX3
  have hu3 := hM3.old MV.mono hu hE3 (Nat.le_refl _) (fun _ _ h => h)
  have hv3 := hva.mono QV.mono (fun a v h => ((mk_over (X := X) (Z := mz X ao hs) hE3 (fun k _ hk => by simp [noY] at hk) fun k hk hz => by
    rcases mz_iff.1 hz with a | a
    · exact a
    · have := (hM3.mb_block (mb_iff.2 a)).1; omega) a v h))
  obtain ⟨V, hV⟩ : ∃ V, zerL n (c + 1) = V := ⟨_, rfl⟩
  have hVl : Hid (V.length = n) := hid (by rw [← hV]; exact zerL_len _ _)
  have hVg : Hid (∀ i (h : i < V.length), V[i] = List.replicate (c + 1) 0) := hid fun i h => by subst hV; exact zerL_get h
  have hWV : Hid (W.length = V.length) := hid (by rw [hVl.out]; exact hWs.out.1)
  change MO X w2.heap.size _ _ w3 ao cap hs (zerL n (c + 1)) at hM3
  rw [hV, ← mix_zero W V] at hM3
  have hco := copied_any (mz X ao hs) w3 _ m n c hZ3 hu3 hsh'.out hcc'.out (by omega) (by omega)
  clear hfo hcol hu hu3 hV
  go_wp2_with fail
  refine hco.mono ?_
  rintro e w4 ⟨hE4, bo, capb, hs4, rfl, hM4⟩
  have hmc4 := hM4.mc
  rw [hnn'.out] at hmc4 ⊢
  have hM34 := hM3.ext0 hE4
  have hE04 := hE3.trans hE4
  obtain ⟨ba, bca, heq, hbca, hsb⟩ := hmc4
  simp only [Value.slice.injEq] at heq
  obtain ⟨rfl, hx9, rfl⟩ := heq
  clear hx9
  have hhb := hsb.hd
  rw [hnn'.out] at hhb
  obtain ⟨Z, hZe⟩ : ∃ Z, mz X ao hs = Z := ⟨_, rfl⟩
  have hZ' := hid hZe
  rw [hZe] at hsb hZ3 hv3
  have hv4 := hv3.mono QV.mono (mk_ext hE4)
  clear hv3
  clear hco hM3 hM4 hZe
  go_wp2_with fail
  go_loopw [33] (fun k wr => ∃ (i : Nat), k = .int .i64 i ∧ i ≤ n ∧ MO X w2.heap.size 33 31 wr ao cap hs (mix W V i) ∧ Sl RC 1 (mk Z wr) bo m ∧ Sl QV 3 (mk Z wr) va b ∧ Ext w2 wr) (fun k _ => n - (intOf k).toNat)
  case atStart => exact ⟨0, rfl, Nat.zero_le _, hM34, hsb, hv4, hE04⟩
  case round =>
    obtain ⟨i, rfl, hi, hM, hsb, hva, hE⟩ := hrel
    by_cases hlt : i < n
    · have him : i < m.length := by rw [hnn'.out]; exact hlt
      obtain ⟨a1, c1, hX1, hc1, hcl1, hq1⟩ := hsb.row i him
      have k00 := hc1.out noY wr (ExtX.refl _) rfl
      have hxl : Hid (m[i].length = c) := hid (hsh'.out.2 _ (List.getElem_mem _))
      have hiV : i < V.length := by rw [hVl.out]; exact hlt
      have hiW : i < W.length := by rw [hWV.out]; exact hiV
      have hib : i < b.length := by rw [hbl'.out]; exact hlt
      have hWi := hid (hwg.out i hiW him hib)
      have hVi := hid (hVg.out i hiV)
      obtain ⟨x, hx⟩ : ∃ x, m[i] = x := ⟨_, rfl⟩
      rw [hx] at k00 hcl1 hq1 hxl hWi
      rw [hxl.out] at k00 hcl1
      have hh1 : Hd a1 c := by have := hq1.hd; rw [hxl.out] at this; exact this
      have hih : i < hs.length := by rw [hlen.out]; exact hlt
      have hmi : i < (mix W V i).length := by rw [mix_len hWV.out]; exact hiW
      have hmg : Hid ((mix W V i)[i] = List.replicate (c + 1) 0) := hid (by rw [mix_getElem hWV.out, if_neg (by omega)]; exact hVi.out)
      have hms : Hid ((mix W V i).set i (x ++ [b[i]]) = mix W V (i + 1)) := hid (by rw [← hWi.out]; exact mix_set hWV.out hiW)
      obtain ⟨a, na, cr, hhd⟩ : ∃ a na cr, hs[i] = (a, na, cr) := ⟨_, _, _, rfl⟩
      have hna : na = c + 1 := by
        have := hM.rlen i hih hmi
        rw [hhd, hmg.out, List.length_replicate] at this; exact this
      have hR := hM.row i hih hmi
      rw [hmg.out] at hR
      simp only [hhd] at hR
      have hz1 := fun k (hk : ob a k = true) => hM.mz_sub hih k (by rw [hhd]; exact hk)
      have hsp := fun k (hk : ob a k = true) => hM.sep i hih k (by rw [hhd]; exact hk)
      have hun : Hid (un (cut (mz X ao hs) a) a = Z) := hid (by rw [un_cut hz1]; exact hZ'.out)
      have hda : Hd a na := by have := hR.hd; rw [List.length_replicate, ← hna] at this; exact this
      have hna' := hid hna
      have y1 : wr.cell? (adr ao i) = some (.slice a na cr) := by
        have := (hM.hdr i hih).1
        rw [hhd] at this; exact this
      have haob : Hid (ob a (adr ao i).block = false) := hid (by
        cases hb : ob a (adr ao i).block
        · rfl
        · have h1 := (hsp _ hb).2
          obtain ⟨b0, o0, rfl⟩ := hhO (by omega)
          simp [ob, adr] at h1)
      have hhd' := hid hhd
      have hRl : Hid ((List.replicate (c + 1) (0 : Rat)).length = na) := hid (by rw [hna]; exact List.length_replicate)
      have hqz : Sl QC 3 (mk (un (cut (mz X ao hs) a) a) wr) a1 x := by rw [hun.out]; exact hq1
      clear hc1 hx hhd hna
      obtain ⟨wo, hwo⟩ : ∃ wo, wo = wr := ⟨_, rfl⟩
      subst hwo
      go_wp2_with (first | (with_reducible refine up_ix1 slRats (by omega) (by assumption) ?_) | (refine st_copyTo slRat QC.elem x rfl hRl.out rfl hxl.out hR hqz (by rw [hna'.out]; omega) (by have := hpos (by omega); omega) ?_; intro w5 hO5 hE5; have y5 := hE5.cellY y1 haob.out))
      have hxi : x ++ List.drop c (List.replicate (c + 1) (0 : Rat)) = x ++ [0] := by rw [List.drop_replicate, show c + 1 - c = 1 by omega]; rfl
      rw [hxi] at hO5
      have hzz : ∀ k, ob a k = true → Z k = true := fun k hk => by rw [← hZ'.out]; exact hz1 k hk
      have hxr : Hid ((x ++ [(0 : Rat)]).length = na) := hid (by rw [List.length_append, hxl.out, hna'.out]; rfl)
      have hM5 := hM.upd hih (l := x ++ [(0 : Rat)]) (show ExtX (ob hs[i].1) wo w5 by rw [hhd'.out]; exact hE5) (fun hi' => by rw [hmg.out, List.length_replicate, hxr.out, hna'.out]) (by rw [hhd'.out]; exact hO5)
      have hsb5 := hsb.mono RC.mono (mk_mono hE5 hzz)
      have hE05 := hM.ext_from hE (Nat.le_refl _) (ExtX.row hih (show ExtX (ob hs[i].1) wo w5 by rw [hhd'.out]; exact hE5))
      have hput : Hid ((x ++ [(0 : Rat)]).set c b[i] = x ++ [b[i]]) := hid (by rw [List.set_append_right _ _ (by rw [hxl.out]; exact Nat.le_refl _), hxl.out, Nat.sub_self]; rfl)
      have hni : c < (x ++ [(0 : Rat)]).length := by rw [hxr.out, hna'.out]; omega
      have hZ5 : HX Z w5 := by
        have h1 := hM5.hz (hX.ext hE05)
        rw [hZ'.out] at h1; exact h1
      have hEd : Ext w5 w5.drew := (ExtX.refl w5).drew
      obtain ⟨g4, o4, s4, a4, n4, c4, d4, k4, e4, hg4, hX4, hc4, hq4⟩ := hva.rat QV.shaped i hib
      have hab4 : Hid (ob a g4 = false) := hid (by
        cases hb : ob a g4
        · rfl
        · have := hzz g4 hb; rw [hX4] at this; simp at this)
      have hv5 := hva.mono QV.mono (mk_mono hE5 hzz)
      have hq5 : QV (mk Z w5.drew) (.agg #[.bool s4, .slice a4 n4 c4, .slice d4 k4 e4]) b[i] := mkx QV.mono (QV.mono _ _ _ _ (mk_mono hE5 hzz) hq4) hEd
      obtain ⟨v, hv⟩ : ∃ v, b[i] = v := ⟨_, rfl⟩
      rw [hv] at hput hq5 hms
      obtain ⟨L, hL⟩ : ∃ L, x ++ [(0 : Rat)] = L := ⟨_, rfl⟩
      rw [hL] at hO5 hM5 hxr hput hni
      obtain ⟨L2, hL2⟩ : ∃ L2, x ++ [v] = L2 := ⟨_, rfl⟩
      rw [hL2] at hput hms
      have hL2l : Hid (L2.length = L.length) := hid (by rw [← hput.out, List.length_set])
      obtain ⟨g, o, hg⟩ : ∃ g o, adr a (c * 3) = ⟨g, o, none⟩ := ⟨_, _, rfl⟩
      have i2 : ∀ W, (Instr.indexAt 33 (.slice a na cr) (.int .i64 (c : Int))).run Tryz.prog W = .ok (.pointer (some ⟨g, o, none⟩)) W := by
        rw [← hg]; exact run_indexAt_adr slRat a na cr .i64 c hda (by rw [hna'.out]; omega)
      have i3 : ∀ W, (Instr.indexAt 33 (.slice va n vca) (.int .i64 (i : Int))).run Tryz.prog W = .ok (.pointer (some ⟨g4, o4, none⟩)) W := by
        rw [← hg4]; exact run_indexAt_adr slRat va n vca .i64 i hhv (by omega)
      have i1 : ∀ W, (Instr.indexAt 23 (.slice ao n cap) (.int .i64 (i : Int))).run Tryz.prog W = .ok (.pointer (some (adr ao i))) W := run_ix1 slRats ao n cap .i64 i hhO (by omega) rfl
      have hg' := hid hg
      have hS : Hid (∀ Y W', ExtX Y w5.drew W' → Y (adr ao i).block = false → Y g4 = false → W'.cell? (adr ao i) = some (.slice a na cr) ∧ W'.cell? ⟨g4, o4, none⟩ = some (.bool s4) ∧ W'.cell? ⟨g4, o4 + 1, none⟩ = some (.slice a4 n4 c4) ∧ W'.cell? ⟨g4, o4 + 2, none⟩ = some (.slice d4 k4 e4)) := hid fun Y W' h hy1 hy2 => by
        have p := hc4.out (ob a) w5.drew (hE5.trans (ExtX.of hEd)) hab4.out
        exact ⟨h.cellY (hEd.cell y5) hy1, h.cellY p.1 hy2, h.cellY p.2.1 hy2, h.cellY p.2.2 hy2⟩
      obtain ⟨k20, k30, k31, k32⟩ := hS.out noY w5.drew (ExtX.refl _) rfl rfl
      have hO5d := hO5.ext0 QC.elem hEd
      have h00 : QV (mk Z w5.drew) (.agg #[.bool false, .slice none 0 0, .slice none 0 0]) 0 := (QC.zero _).qv (by rw [hq_zero]; decide)
      have qf := qadd Z w5.drew _ _ _ 0 (hZ5.ext hEd) hq5 h00
      rw [Rat.add_zero] at qf
      have hun' : Hid (un (cut (mz X ao hs) a) a = Z) := hun
      clear hxi hL hL2 hg hg4 hc4 hq4 hv y1 y5 hR hqz hq1 k00 hM hsb hva
      go_region_held3 (fun w' => w'.cell? (adr ao i) = some (.slice a na cr) ∧ w'.cell? ⟨g4, o4, none⟩ = some (.bool s4) ∧ w'.cell? ⟨g4, o4 + 1, none⟩ = some (.slice a4 n4 c4) ∧ w'.cell? ⟨g4, o4 + 2, none⟩ = some (.slice d4 k4 e4))
        (first | exact hS.out noY _ t1 rfl rfl | exact hS.out (ob a) _ ((ExtX.of t1).trans hset.2) haob.out hab4.out | go_keep)
        ((go_at_call 110; (with_reducible refine qf.mono ?_); rintro ee w6 ⟨t1, u6, rfl, hu6⟩; obtain ⟨s6, a6, n6, c6, d6, k6, e6, rfl⟩ := hu6.shape; have hO6 := hO5d.ext0 QC.elem t1; obtain ⟨_, v0, v1, v2, _, ⟨g0, f0⟩, ⟨g1, f1⟩, ⟨g2, f2⟩, _⟩ := hO6.cell3 c hni hg'.out; have hset := hO6.set3 tyRat QC.elem c hni hg'.out (v0 := .bool s6) (v1 := .slice a6 n6 c6) (v2 := .slice d6 k6 e6) (x := v) (by rw [hun'.out]; exact hu6)))
      obtain ⟨q1, q2⟩ := hset
      rw [hput.out] at q1
      obtain ⟨w8, hw8⟩ : ∃ w8, ((w6.setCell ⟨g, o, none⟩ (.bool s6)).setCell ⟨g, o + 1, none⟩ (.slice a6 n6 c6)).setCell ⟨g, o + 2, none⟩ (.slice d6 k6 e6) = w8 := ⟨_, rfl⟩
      rw [hw8] at q1 q2 ⊢
      have q2' : ExtX (ob hs[i].1) w6 w8 := by rw [hhd'.out]; exact q2
      have hM6 := hM5.ext0 (hEd.trans t1)
      have hM7 := hM6.upd hih (l := L2) q2' (fun hi' => by rw [List.getElem_set_self]; exact hL2l.out) (by rw [hhd'.out]; exact q1)
      rw [List.set_set, hms.out] at hM7
      have hs8 := (hsb5.mono RC.mono (mk_ext (hEd.trans t1))).mono RC.mono (mk_mono q2 hzz)
      have hv8 := (hv5.mono QV.mono (mk_ext (hEd.trans t1))).mono QV.mono (mk_mono q2 hzz)
      have hE8 := hM6.ext_from (hE05.trans (hEd.trans t1)) (Nat.le_refl _) (ExtX.row hih q2')
      clear k20 k30 k31 k32 g0 g1 g2 f0 f1 f2 i1 i2 i3 hw8
      go_wp2_with fail
      go_roundw
      case rel => exact ⟨i + 1, by go_num, by omega, hM7, hs8, hv8, hE8⟩
      case measure => simp [intOf]; omega
    · have hin : i = n := by omega
      subst hin
      rw [mix_full (by rw [hWs.out.1]; exact Nat.le_refl _) (by rw [hVl.out]; exact Nat.le_refl _)] at hM
      have hXr := hX.ext hE
      have hZr := hM.hz hXr
      obtain ⟨wo, hwo⟩ : ∃ wo, wo = wr := ⟨_, rfl⟩
      subst hwo
      go_wp2_with ((with_reducible show wpList _ _ _ (⟨_, .makeSlice _ _ _, _, _, _, _⟩ :: _) _ _); refine st_make (R := QC) slRat QC.elem (0 : Rat) (fun _ => QC.zero _) (mz X ao hs) hZr wo.heap.size (Nat.le_refl _) c rfl rfl rfl (by omega) (by omega) ?_; intro oo w5 hO5 hE5)
      have hw2o := hE.size
      have hob := fun k (hk : ob oo k = true) => hO5.block hk
      have hoX : ∀ k, ob oo k = true → X k = false := fun k hk => by
        cases hx : X k
        · rfl
        · have := (hob k hk).1; have := hXr k hx; omega
      have hM5 : MO (un X oo) w2.heap.size 33 31 w5 ao cap hs W := hM.ext hE5 (fun k _ hk => by simp [noY] at hk) (fun k hk hx => by
        cases hb : ob oo k
        · simpa [un, hb] using hx
        · have := (hob k hb).1; omega)
      have hX5 : HX (un X oo) w5 := fun k hk => by
        by_cases hx : X k = true
        · exact hXr.ext hE5 k hx
        · exact (hob k (by simpa [un, hx] using hk)).2
      have hE05 := hE.trans hE5
      have hmr := mreduce_any (un X oo) w2.heap.size w5 ao cap i (colsL W) hs W hX5 hM5 hWcs.out rfl (by omega) hWc9.out hTt.out
      rw [hRc.out] at hmr
      have hok := redP_ok hWs.out
      obtain ⟨⟨R, p⟩, hRp⟩ : ∃ S, redP W (c + 1) = S := ⟨_, rfl⟩
      rw [hRp] at hmr hok
      have hRp' := hid hRp
      dsimp only at hok
      have hRs := hid hok.1
      have hRr := hid hok.2.1
      have hob' := hid hob
      have hoX' := hid hoX
      have hXr' := hid hXr
      obtain ⟨pl, hpl⟩ : ∃ pl, p.length = pl := ⟨_, rfl⟩
      have hpl' := hid hpl
      have hpn : pl ≤ i := by have := hok.2.1.le; omega
      clear hok hM hM34 hsb hva hRp hob hoX hXr hX5
      refine hmr.mono ?_
      rintro ee w7 ⟨hE7, po, pc, hs', rfl, hmb, hM7, hP7⟩
      dsimp only at hM7 hP7 ⊢
      rw [hpl]
      have hE07 := hM5.ext_from hE05 (Nat.le_refl _) hE7
      have hlen2 := hid (hM7.len.trans hRs.out.1)
      have hdP : Hd po pl := by have := hP7.hd; rw [hpl] at this; exact this
      have hpb := hid (fun k (hk : ob po k = true) => hP7.block hk)
      have hdO : Hd oo c := by have := hO5.hd; rw [List.length_replicate] at this; exact this
      obtain ⟨M, hMe⟩ : ∃ M, mz (un (un X oo) po) ao hs' = M := ⟨_, rfl⟩
      have hM' := hid hMe
      have hO7 : OL QC 3 (cut M oo) wo.heap.size 31 w7 oo c (sN R p c 0) := hO5.ext QC.elem hE7 (fun k _ hk => mz_iff.2 (.inr (mb_iff.1 hk))) (fun k hk hz => by
        obtain ⟨h1, h2⟩ := cut_of hz
        rw [← hMe] at h1
        rcases mz_iff.1 h1 with h | h
        · by_cases hx : X k = true
          · exact mz_iff.2 (.inl hx)
          · have : ob po k = true := by simpa [un, hx, h2] using h
            have := (hpb.out k this).1; omega
        · have h3 : mb ao hs' k = true := mb_iff.2 h
          rw [hmb] at h3; exact mz_iff.2 (.inr (mb_iff.1 h3)))
      have hoM : Hid (∀ k, ob oo k = true → M k = true) := hid fun k hk => by rw [← hMe]; exact mz_iff.2 (.inl (un_left (un_right hk)))
      clear hmr hM5 hO5 hmb hMe hpl
      go_wp2_with fail
      go_loopw [62] (fun k wr => ∃ (j : Nat), k = .int .i64 j ∧ j ≤ pl ∧ MO (un (un X oo) po) w2.heap.size 33 31 wr ao cap hs' R ∧ OL QC 3 (cut M oo) wo.heap.size 31 wr oo c (sN R p c j) ∧ OL (NatIn .i64) 1 (mz (un X oo) ao hs) w5.heap.size 3 wr po pc p ∧ Hid (∀ k (hk : k < p.length), k < j → p[k] ≠ c) ∧ Ext w2 wr) (fun k _ => pl - (intOf k).toNat)
      case atStart => exact ⟨0, rfl, Nat.zero_le _, hM7, hO7, hP7, hid (fun k _ h => by omega), hE07⟩
      case round =>
        obtain ⟨j, rfl, hj, hM, hO, hP, hne, hE⟩ := hrel
        by_cases hlj : j < pl
        · have hjp : j < p.length := by rw [hpl'.out]; exact hlj
          have hcl := (hP.sl (NatIn.elem _)).nat j hjp
          have hpc1 : Hid (p[j] < c + 1) := hid (hRr.out.lt j hjp)
          have hgd : Hid (p.getD j 0 = p[j]) := hid (by simp [List.getD_eq_getElem?_getD, hjp])
          have hmem : Hid (p[j] ∈ p) := hid (List.getElem_mem _)
          obtain ⟨q, hq⟩ : ∃ q, p[j] = q := ⟨_, rfl⟩
          rw [hq] at hcl hpc1 hgd hmem
          have hq' := hid hq
          clear hq
          by_cases hqc : q = c
          · have hb : ((q : Int) == (c : Int)) = true := beqT (by omega)
            have hmem2 : Hid (c ∈ p) := hid (hqc ▸ hmem.out)
            clear hqc
            go_wp2_with (with_reducible refine up_ix1 slInt (by omega) (by assumption) ?_)
            go_ret2
            unfold SolOut
            rw [hRp'.out]
            exact ⟨hE, .inl ⟨hmem2.out, rfl⟩⟩
          · have hb : ((q : Int) == (c : Int)) = false := beqF (by omega)
            have hqc1 : q < c := by have := hpc1.out; omega
            have hne2 : Hid (∀ k (hk : k < p.length), k < j + 1 → p[k] ≠ c) := hid fun k hk hkj => by
              by_cases h : k = j
              · subst h; rw [hq'.out]; exact hqc
              · exact hne.out k hk (by omega)
            have hjh : j < hs'.length := by rw [hlen2.out]; omega
            have hjR : j < R.length := by rw [hRs.out.1]; omega
            have hrl := hid (hRs.out.2 R[j] (List.getElem_mem _))
            obtain ⟨a, na, cr, hhd⟩ : ∃ a na cr, hs'[j] = (a, na, cr) := ⟨_, _, _, rfl⟩
            have hna : na = c + 1 := by
              have := hM.rlen j hjh hjR
              rw [hhd, hrl.out] at this; exact this
            have hR := hM.row j hjh hjR
            simp only [hhd] at hR
            have hz1 := fun k (hk : ob a k = true) => hM.mz_sub hjh k (by rw [hhd]; exact hk)
            have hun : Hid (un (cut (mz (un (un X oo) po) ao hs') a) a = M) := hid (by rw [un_cut hz1]; exact hM'.out)
            have hda : Hd a na := by have := hR.hd; rw [hrl.out, ← hna] at this; exact this
            have y1 : wr.cell? (adr ao j) = some (.slice a na cr) := by
              have := (hM.hdr j hjh).1
              rw [hhd] at this; exact this
            have hcR : c < R[j].length := by rw [hrl.out]; omega
            have hev : Hid (R[j][c] = ent R j c) := hid (by unfold ent; rw [getD_row hjR]; simp [List.getD_eq_getElem?_getD, hcR])
            have hunO : Hid (un (cut M oo) oo = M) := hid (un_cut hoM.out)
            have hqO : q < (sN R p c j).length := by rw [sN_len]; exact hqc1
            have hsn : Hid ((sN R p c j).set q (ent R j c) = sN R p c (j + 1)) := hid (by rw [← hgd.out]; rfl)
            have hna' := hid hna
            have hcna : c < na := by omega
            clear hhd hna hqc
            go_wp2_with (first | (with_reducible refine up_ix1 slInt (by omega) (by assumption) ?_) | (with_reducible refine up_ix1 slRats (by omega) (by assumption) ?_) | (with_reducible refine up_ixn slRat (by omega) (by assumption) ?_) | ((with_reducible show wpList _ _ _ (⟨_, .load 31 _, _, _, _, _⟩ :: _) _ _); refine st_loadOL stRat c hR hcR rfl (by simp) QC.agg ?_; intro u6 hu6; rw [hev.out, hun.out] at hu6; obtain ⟨s6, a6, n6, c6, d6, k6, e6, rfl⟩ := hu6.shape) | ((with_reducible show wpList _ _ _ (⟨_, .store 31 _ _, _, _, _, _⟩ :: _) _ _); refine st_store tyRat QC.elem q rfl (by simp) hO hqO _ (ent R j c) rfl (by rw [hunO.out]; exact hu6) ?_; intro w8 hO8 hE8))
            rw [hsn.out] at hO8
            have hM8 := hM.ext (X' := un (un X oo) po) hE8 (fun k _ hk => un_left (un_right hk)) (fun _ _ h => h)
            have hP8 := hP.frame (NatIn.pure _) hE8 (fun k hk => by
              cases hb : ob oo k
              · rfl
              · have := (hpb.out k hk).1; have := (hob'.out k hb).2; omega) hP.1
            have hE9 := hE.then_ hE8 fun k hk _ => by
              cases hb : ob oo k
              · rfl
              · have := (hob'.out k hb).1; omega
            clear y1 hcl
            go_roundw
            case rel => exact ⟨j + 1, by go_num, by omega, hM8, hO8, hP8, hne2, hE9⟩
            case measure => simp [intOf]; omega
        · have hjl : j = pl := by omega
          subst hjl
          have hnp : c ∉ p := fun hm => by
            obtain ⟨k, hk, hkc⟩ := List.getElem_of_mem hm
            exact hne.out k hk (by rw [← hpl'.out]; exact hk) hkc
          have hs := (hO.sl QC.elem).mono QC.mono (mk_sub (X := X) fun k _ hk => cut_mk (by rw [← hM'.out]; exact mz_iff.2 (.inl (un_left (un_left hk)))) (by
            cases hb : ob oo k
            · rfl
            · have := hoX'.out k hb; rw [hk] at this; simp at this))
          have hlc := hO.lenCap
          go_wp2_with fail
          go_ret2
          rw [← hpl'.out] at hs hlc
          unfold SolOut
          rw [hRp'.out]
          exact ⟨hE, .inr ⟨hnp, .slice oo c c, rfl, oo, c, by show Value.slice oo c c = Value.slice oo (sN R p c p.length).length c; rw [sN_len], hlc, hs⟩⟩
end Go.Proofs.YtjbhcniiioepgaaGreat

namespace Go.Proofs.YtjbhcniiioepgaaGreat
open Go.RowKit Go.Rep Go.Lim Go.Lin

/-- A matrix, some column numbers, and no error. -/
def M3Out (X : Nat → Bool) (w : World) (m : List (List Rat)) (p : List Nat) (e : Ending) (w' : World) : Prop := Ext w w' ∧ ∃ u v, e = .returned (.tuple #[u, v, .int .i64 0]) ∧ MC (mk X w') u m ∧ SlV (NatIn .i64) 1 (mk X w') v p

theorem preduce_no (X : Nat → Bool) (w : World) (u : Value) (m : List (List Rat)) (hu : MV (mk X w) u m) (hl : m.length ≤ 1099511627776) (hf : formedB m = false) : Calls Tryz.prog 21 #[u] w (fun e w' => w' = w ∧ e = .returned (.tuple #[.slice none 0 0, .slice none 0 0, .int .i64 6])) := by
  have hfo := formed_any X w u m hu hl
  rw [hf] at hfo
  clear hf
  go_enter Tryz.func21, Tryz.ntmps21
  go_wp2_with fail
  refine hfo.mono ?_
  rintro e w1 ⟨rfl, rfl⟩
  go_wp2_with fail
  go_ret3
  exact ⟨rfl, rfl⟩

theorem preduce_ok (X : Nat → Bool) (w : World) (u : Value) (m : List (List Rat)) (hX : HX X w) (hu : MV (mk X w) u m) (hf : formedB m = true) (hT : Tame m (colsL m)) : Calls Tryz.prog 21 #[u] w (M3Out X w (redP m (colsL m)).1 (redP m (colsL m)).2) := by
  obtain ⟨hsh, h96, hc96, _, _⟩ := formedB_shp hf
  have hfo := formed_any X w u m hu (by omega)
  rw [hf] at hfo
  have hco := copied_any X w u m m.length (colsL m) hX hu hsh rfl (by omega) (by omega)
  have hrs := hid (redP_ok hsh).1
  clear hf
  go_enter Tryz.func21, Tryz.ntmps21
  go_wp2_with fail
  refine hfo.mono ?_
  rintro e w1 ⟨rfl, rfl⟩
  go_wp2_with fail
  refine hco.mono ?_
  rintro e w2 ⟨hE2, ao, cap, hs, rfl, hM2⟩
  go_wp2_with fail
  refine (mreduce_any X _ w2 ao cap m.length (colsL m) hs m (hX.ext hE2) hM2 hsh rfl (by omega) (by omega) hT).mono ?_
  rintro e w3 ⟨hE3, po, pc, hs', rfl, hmb, hM3, hP3⟩
  have hEf := hM2.ext_from hE2 (Nat.le_refl _) hE3
  have hmc := MC.mono _ _ _ _ (mk_sub (X := X) fun k _ hk => un_left hk) hM3.mc
  have hps : SlV (NatIn .i64) 1 (mk X w3) (.slice po (redP m (colsL m)).2.length pc) (redP m (colsL m)).2 := ⟨po, pc, rfl, hP3.lenCap, (hP3.sl (NatIn.elem _)).mono (NatIn.mono _) (mk_sub fun k _ hk => mz_iff.2 (.inl hk))⟩
  rw [hrs.out.1] at hmc
  go_wp2_with fail
  go_ret3
  exact ⟨hEf, _, _, rfl, hmc, hps⟩
end Go.Proofs.YtjbhcniiioepgaaGreat

namespace Go.Lin
open Go.Lim
/-- The first i pivots' unknowns of a null vector are written. -/
def xN (R : Mat) (p : List Nat) (c col : Nat) : Nat → List Rat
  | 0 => (List.replicate c 0).set col 1
  | i + 1 => (xN R p c col i).set (p.getD i 0) (- ent R i col)
theorem xN_len (R : Mat) (p : List Nat) (c col i : Nat) : (xN R p c col i).length = c := by
  induction i with
  | zero => show ((List.replicate c (0 : Rat)).set col 1).length = c; rw [List.length_set, List.length_replicate]
  | succ i ih => show ((xN R p c col i).set _ _).length = c; rw [List.length_set, ih]
theorem xN_get {n c col : Nat} {R : Mat} {p : List Nat} (hr : Rref n c (ent R) p) (hcp : col ∉ p) (i : Nat) (hi : i ≤ p.length) (x : Nat) (hx : x < c) : (xN R p c col i).getD x 0 = if x = col then 1 else match p.findIdx? (· == x) with | some k => if k < i then - ent R k col else 0 | none => 0 := by
  induction i with
  | zero =>
    show ((List.replicate c (0 : Rat)).set col 1).getD x 0 = _
    rw [List.getD_eq_getElem?_getD, List.getElem?_set, List.length_replicate]
    by_cases h : col = x
    · subst h; rw [if_pos rfl, if_pos hx, if_pos rfl]; rfl
    · rw [if_neg h, if_neg (Ne.symm h)]
      have : ((List.replicate c (0 : Rat))[x]?).getD 0 = 0 := by simp [hx]
      rw [this]; cases p.findIdx? (· == x) <;> simp
  | succ i ih =>
    have hip : i < p.length := by omega
    have hpi : p.getD i 0 = p[i] := by simp [List.getD_eq_getElem?_getD, hip]
    show ((xN R p c col i).set (p.getD i 0) (- ent R i col)).getD x 0 = _
    rw [hpi, List.getD_eq_getElem?_getD, List.getElem?_set, xN_len]
    by_cases h : p[i] = x
    · have hxc : x ≠ col := by rintro rfl; exact hcp (h ▸ List.getElem_mem _)
      rw [if_pos h, if_pos (by omega), if_neg hxc, ← h, hr.idx i hip]; simp
    · rw [if_neg h, ← List.getD_eq_getElem?_getD, ih (by omega)]
      cases hf : p.findIdx? (· == x) with
      | none => rfl
      | some k =>
        obtain ⟨hk1, hk2, _⟩ := List.findIdx?_eq_some_iff_getElem.1 hf
        have hki : k ≠ i := by rintro rfl; exact h (by simpa using hk2)
        dsimp only
        by_cases h2 : k < i
        · rw [if_pos h2, if_pos (show k < i + 1 by omega)]
        · rw [if_neg h2, if_neg (show ¬ k < i + 1 by omega)]
theorem xN_full {n c col : Nat} {R : Mat} {p : List Nat} (hr : Rref n c (ent R) p) (hcp : col ∉ p) : xN R p c col p.length = (List.range c).map (nv (ent R) p col) := by
  refine List.ext_getElem (by rw [xN_len]; simp) fun x h1 h2 => ?_
  have hx : x < c := by rw [xN_len] at h1; exact h1
  have := xN_get hr hcp _ (Nat.le_refl _) x hx
  rw [List.getD_eq_getElem?_getD, List.getElem?_eq_getElem h1] at this
  rw [show (xN R p c col p.length)[x] = _ from this]
  simp only [List.getElem_map, List.getElem_range]
  unfold nv
  by_cases h : x = col
  · rw [if_pos h, if_pos h]
  · rw [if_neg h, if_neg h]
    cases hf : p.findIdx? (· == x) with
    | none => rfl
    | some k =>
      obtain ⟨hk1, _⟩ := List.findIdx?_eq_some_iff_getElem.1 hf
      dsimp only
      rw [if_pos hk1]
/-- The null vectors of the first k columns. -/
def nullK (r : F2) (p : List Nat) (c k : Nat) : Mat := ((List.range k).filter (· ∉ p)).map fun j => (List.range c).map (nv r p j)
theorem nullK_skip (r : F2) {p : List Nat} (c : Nat) {k : Nat} (h : k ∈ p) : nullK r p c (k + 1) = nullK r p c k := by
  unfold nullK; rw [List.range_succ, List.filter_append]; simp [h]
theorem nullK_push (r : F2) {p : List Nat} (c : Nat) {k : Nat} (h : k ∉ p) : nullK r p c (k + 1) = nullK r p c k ++ [(List.range c).map (nv r p k)] := by
  unfold nullK; rw [List.range_succ, List.filter_append, List.map_append]; simp [h]
theorem nullK_le (r : F2) (p : List Nat) (c k : Nat) : (nullK r p c k).length ≤ k := by
  unfold nullK
  rw [List.length_map]
  exact Nat.le_trans (List.length_filter_le _ _) (by simp)
theorem tame_bm {m : Mat} {c : Nat} (h : Tame m c) : Go.Rep.BM 9817068105 (redP m c).1 := by
  obtain ⟨B, h1, _, h3⟩ := h
  have := (h3 _ (Nat.le_refl _)).bm
  exact fun r hr q hq => Nat.le_trans (this r hr q hq) (by omega)
end Go.Lin
namespace Go.Proofs.YtjbhcniiioepgaaGreat
open Go.RowKit Go.Rep Go.Lim Go.Lin

theorem indexint_any (X : Nat → Bool) (w : World) (ao : Option Addr) (l : List Nat) (n c x : Nat) (hs : Sl (NatIn .i64) 1 (mk X w) ao l) (hl : l.length = n) (hn : n ≤ 1000000) : Calls Tryz.prog 165 #[.slice ao n c, .int .i64 (x : Int)] w (fun e w' => w' = w ∧ ∃ k : Int, e = .returned (.int .i64 k) ∧ (0 ≤ k ↔ x ∈ l)) := by
  have hh : Hd ao n := by have := hs.hd; rw [hl] at this; exact this
  have hl' := hid hl
  clear hl
  go_enter Tryz.func165, Tryz.ntmps165
  go_wp2_with fail
  go_loopw [8] (fun k wr => ∃ (i : Nat), k = .int .i64 i ∧ i ≤ n ∧ Hid (∀ q (hq : q < l.length), q < i → l[q] ≠ x) ∧ wr = w) (fun k _ => n - (intOf k).toNat)
  case atStart => exact ⟨0, rfl, Nat.zero_le _, hid (fun q hq h => by omega), rfl⟩
  case round =>
    obtain ⟨i, rfl, hi, hok, rfl⟩ := hrel
    by_cases hlt : i < n
    · have hil : i < l.length := by rw [hl'.out]; exact hlt
      have hc := hs.nat i hil
      by_cases hx : l[i] = x
      · have hb : ((x : Int) == (l[i] : Int)) = true := beqT (by omega)
        have hm : Hid (x ∈ l) := hid (hx ▸ List.getElem_mem _)
        obtain ⟨y, hy⟩ : ∃ y, (l[i] : Int) = y := ⟨_, rfl⟩
        rw [hy] at hc hb
        clear hx hy
        go_wp2_with (with_reducible refine up_ix1 slInt (by omega) (by assumption) ?_)
        go_ret
        exact ⟨rfl, _, rfl, ⟨fun _ => hm.out, fun _ => by omega⟩⟩
      · have hb : ((x : Int) == (l[i] : Int)) = false := beqF (by omega)
        have hok2 : Hid (∀ q (hq : q < l.length), q < i + 1 → l[q] ≠ x) := hid fun q hq hqi => by
          by_cases h : q = i
          · subst h; exact hx
          · exact hok.out q hq (by omega)
        obtain ⟨y, hy⟩ : ∃ y, (l[i] : Int) = y := ⟨_, rfl⟩
        rw [hy] at hc hb
        clear hx hy
        go_wp2_with (with_reducible refine up_ix1 slInt (by omega) (by assumption) ?_)
        go_roundw
        case rel => exact ⟨i + 1, by go_num, by omega, hok2, trivial⟩
        case measure => simp [intOf]; omega
    · have hno : Hid (x ∉ l) := hid fun hm => by
        obtain ⟨q, hq, hqx⟩ := List.getElem_of_mem hm
        exact hok.out q hq (by rw [hl'.out] at hq; omega) hqx
      go_wp2_with fail
      go_ret
      exact ⟨rfl, _, rfl, ⟨fun h => by omega, fun h => absurd h hno.out⟩⟩

theorem contains_any (X : Nat → Bool) (w : World) (ao : Option Addr) (l : List Nat) (n c x : Nat) (hs : Sl (NatIn .i64) 1 (mk X w) ao l) (hl : l.length = n) (hn : n ≤ 1000000) : Calls Tryz.prog 111 #[.slice ao n c, .int .i64 (x : Int)] w (fun e w' => w' = w ∧ e = .returned (.bool (decide (x ∈ l)))) := by
  have h1 := indexint_any X w ao l n c x hs hl hn
  clear hs hl hn
  go_enter Tryz.func111, Tryz.ntmps111
  go_wp2_with fail
  refine h1.mono ?_
  rintro e w1 ⟨rfl, k, rfl, hk⟩
  have hd : Hid (decide (0 ≤ k) = decide (x ∈ l)) := hid (decide_eq_decide.2 hk)
  clear hk
  go_wp2_with fail
  go_ret
  exact ⟨rfl, ret_bool hd.out⟩

theorem null_no (X : Nat → Bool) (w : World) (u : Value) (m : List (List Rat)) (hu : MV (mk X w) u m) (hl : m.length ≤ 1099511627776) (hf : formedB m = false) : Calls Tryz.prog 55 #[u] w (fun e w' => w' = w ∧ e = .returned (.tuple #[.slice none 0 0, .int .i64 6])) := by
  have h1 := preduce_no X w u m hu hl hf
  clear hf
  go_enter Tryz.func55, Tryz.ntmps55
  go_wp2_with fail
  refine h1.mono ?_
  rintro e w1 ⟨rfl, rfl⟩
  go_wp2_with fail
  go_ret2
  exact ⟨rfl, rfl⟩

set_option maxRecDepth 100000 in
set_option maxHeartbeats 1600000 in
theorem null_ok (X : Nat → Bool) (w : World) (u : Value) (m : List (List Rat)) (n c : Nat) (hX : HX X w) (hu : MV (mk X w) u m) (hf : formedB m = true) (hnn : m.length = n) (hcc : colsL m = c) (hT : Tame m c) : Calls Tryz.prog 55 #[u] w (M2Out X w (nullL (ent (redP m c).1) (redP m c).2 c)) := by
  obtain ⟨hsh, h96, hc96, hpos, _⟩ := formedB_shp hf
  rw [hnn, hcc] at hsh
  rw [hnn] at h96
  rw [hcc] at hc96
  have hrd := preduce_ok X w u m hX hu hf (by rw [hcc]; exact hT)
  rw [hcc] at hrd
  have hcol := hid (fun w' (h : Ext w w') => columns_any X w' u m (mkx MV.mono hu h))
  rw [hcc] at hcol
  have hok := redP_ok hsh
  have hbm := hid (tame_bm hT)
  obtain ⟨⟨R, p⟩, hRp⟩ : ∃ S, redP m c = S := ⟨_, rfl⟩
  rw [hRp] at hrd hok hbm ⊢
  dsimp only at hrd hok hbm ⊢
  have hRs := hid hok.1
  have hRr := hid hok.2.1
  obtain ⟨pl, hpl⟩ : ∃ pl, p.length = pl := ⟨_, rfl⟩
  have hpl' := hid hpl
  have hpn : pl ≤ n := by have := hok.2.1.le; omega
  have hfull : Hid (nullK (ent R) p c c = nullL (ent R) p c) := hid rfl
  obtain ⟨ua, uca, rfl, huca, hua⟩ := hu
  clear hok hT hsh hf hnn hcc hRp huca hua hpos hpl
  go_enter Tryz.func55, Tryz.ntmps55
  go_wp2_with fail
  refine hrd.mono ?_
  rintro e w1 ⟨hE1, ur, uv, rfl, hur, huv⟩
  obtain ⟨ra, rca, rfl, hrca, hra⟩ := hur
  obtain ⟨pa, pca, rfl, hpca, hpa⟩ := huv
  have hhr : Hd ra n := by have := hra.hd; rw [hRs.out.1] at this; exact this
  have hhp : Hd pa pl := by have := hpa.hd; rw [hpl'.out] at this; exact this
  have hX1 := hX.ext hE1
  rw [hRs.out.1, hpl'.out]
  clear hrd
  go_wp2_with fail
  refine (hcol.out w1 hE1).mono ?_
  rintro e w2 ⟨rfl, rfl⟩
  go_wp2_with fail
  go_loopw [7, 23] (fun o kk wr => ∃ (k q : Nat) (oo : Option Addr) (co : Nat), kk = .int .i64 k ∧ o = .slice oo q co ∧ k ≤ c ∧ q ≤ k ∧ Hid ((nullK (ent R) p c k).length = q) ∧ OL RC 1 X w2.heap.size 33 wr oo co (nullK (ent R) p c k) ∧ Ext w2 wr) (fun _ kk _ => c - (intOf kk).toNat)
  case atStart => exact ⟨0, 0, none, 0, rfl, rfl, Nat.zero_le _, Nat.le_refl _, hid rfl, OL.nil _ _ _ _ _ _, ExtX.refl _⟩
  case round =>
    obtain ⟨k, q, oo, co, rfl, rfl, hk, hqk, hlq, hO, hE⟩ := hrel
    by_cases hlt : k < c
    · have hXr : HX X wr := hX1.ext hE
      have hXu : HX (un X oo) wr := hO.unX hXr
      have hcon := contains_any X wr pa p pl pca k (hpa.mono (NatIn.mono _) (mk_ext hE)) hpl'.out (by omega)
      have hw2r := hE.size
      by_cases hkp : k ∈ p
      · rw [decide_eq_true hkp] at hcon
        have hsk := hid (nullK_skip (ent R) c hkp)
        clear hkp
        go_wp2_with fail
        refine hcon.mono ?_
        rintro e w3 ⟨rfl, rfl⟩
        rw [← hsk.out] at hO hlq
        go_wp2_with fail
        go_roundw
        case rel => exact ⟨k + 1, q, oo, co, by go_num, rfl, by omega, by omega, hlq, hO, hE⟩
        case measure => simp [intOf]; omega
      · rw [decide_eq_false hkp] at hcon
        have hps := hid (nullK_push (ent R) c hkp)
        have hxf := hid (xN_full hRr.out hkp)
        rw [hpl'.out] at hxf
        have hcl := hcol.out wr (hE1.trans hE)
        clear hkp
        obtain ⟨wo, hwo⟩ : ∃ wo, wo = wr := ⟨_, rfl⟩
        subst hwo
        go_wp2_with fail
        refine hcon.mono ?_
        rintro e w3 ⟨rfl, rfl⟩
        go_wp2_with fail
        refine hcl.mono ?_
        rintro e w4 ⟨rfl, rfl⟩
        clear hcon hcl
        go_wp2_with ((with_reducible show wpList _ _ _ (⟨_, .makeSlice _ _ _, _, _, _, _⟩ :: _) _ _); refine st_make (R := QC) slRat QC.elem (0 : Rat) (fun _ => QC.zero _) (un X oo) hXu w4.heap.size (Nat.le_refl _) c rfl rfl rfl (by omega) (by omega) ?_; intro xo w5 hO5 hE5)
        have hob := hid (fun k (hk : ob xo k = true) => hO5.block hk)
        have hxd : Hd xo c := by have := hO5.hd; rw [List.length_replicate] at this; exact this
        obtain ⟨Z, hZe⟩ : ∃ Z, un (un X oo) xo = Z := ⟨_, rfl⟩
        have hZ' := hid hZe
        have hZ5 : HX Z w5 := by rw [← hZe]; exact hO5.unX (hXu.ext hE5)
        have hoob := hid (fun k (hk : ob oo k = true) => hO.block hk)
        have hXr' := hid hXr
        have hzold : Hid (∀ k, k < w2.heap.size → Z k = true → X k = true) := hid fun k hk hz => by
          rw [← hZ'.out] at hz
          by_cases h1 : X k = true
          · exact h1
          · by_cases h2 : ob oo k = true
            · have := (hoob.out k h2).1; omega
            · have h3 : ob xo k = true := by simpa [un, h1, h2] using hz
              have := (hob.out k h3).1; omega
        have h1r : ((1 : Int) : Rat) = 1 := by decide +kernel
        have hqf := qfrom Z w5 1 hZ5 (by omega) (by omega)
        rw [h1r] at hqf
        have hkr : k < (List.replicate c (0 : Rat)).length := by rw [List.length_replicate]; exact hlt
        clear h1r hZe
        go_wp2_with fail
        refine hqf.mono ?_
        rintro e w6 ⟨hE6, u6, rfl, hu6⟩
        have hO6 := hO5.ext0 QC.elem hE6
        go_wp2_with (first | (with_reducible refine up_ixn slRat (by omega) (by assumption) ?_) | ((with_reducible show wpList _ _ _ (⟨_, .store 31 _ _, _, _, _, _⟩ :: _) _ _); refine st_store tyRat QC.elem k rfl (by simp) hO6 hkr _ 1 rfl (by rw [hZ'.out]; exact hu6) ?_; intro w7 hO7 hE7))
        have hE47 : Ext w4 w7 := (hE5.trans hE6).own hO6 (Nat.le_refl _) hE7
        clear hqf hO5 hO6
        go_loopw [38] (fun kk wi => ∃ (j : Nat), kk = .int .i64 j ∧ j ≤ pl ∧ OL QC 3 (un X oo) w4.heap.size 31 wi xo c (xN R p c k j) ∧ Ext w4 wi) (fun kk _ => pl - (intOf kk).toNat)
        case atStart => exact ⟨0, rfl, Nat.zero_le _, hO7, hE47⟩
        case round =>
          obtain ⟨j, rfl, hj, hOx, hEx⟩ := hrel
          have hE2x := hE.trans hEx
          by_cases hlj : j < pl
          · have hjp : j < p.length := by rw [hpl'.out]; exact hlj
            have hpc := (hpa.mono (NatIn.mono _) (mk_ext hE2x)).nat j hjp
            have hpc1 : Hid (p[j] < c) := hid (hRr.out.lt j hjp)
            have hgd : Hid (p.getD j 0 = p[j]) := hid (by simp [List.getD_eq_getElem?_getD, hjp])
            obtain ⟨y, hy⟩ : ∃ y, p[j] = y := ⟨_, rfl⟩
            rw [hy] at hpc hpc1 hgd
            have hyc : y < c := hpc1.out
            have hjR : j < R.length := by rw [hRs.out.1]; omega
            have hrz : Sl RC 1 (mk Z wr) ra R := hra.mono RC.mono (mk_over hE2x (fun k _ hk => by simp [noY] at hk) hzold.out)
            obtain ⟨a1, c1, hX1', hc1, hcl1, hq1⟩ := hrz.row j hjR
            have k00 := hc1.out noY wr (ExtX.refl _) rfl
            have hxl : Hid (R[j].length = c) := hid (hRs.out.2 _ (List.getElem_mem _))
            have hxe : Hid (∀ h : k < R[j].length, R[j][k] = ent R j k) := hid fun h => by unfold ent; rw [show R.getD j [] = R[j] by simp [List.getD_eq_getElem?_getD, hjR]]; simp [List.getD_eq_getElem?_getD, h]
            have hbr := hid (hbm.out R[j] (List.getElem_mem _))
            obtain ⟨x, hx⟩ : ∃ x, R[j] = x := ⟨_, rfl⟩
            rw [hx] at k00 hcl1 hq1 hxl hxe hbr
            rw [hxl.out] at k00 hcl1
            have hh1 : Hd a1 c := by have := hq1.hd; rw [hxl.out] at this; exact this
            have hkx : k < x.length := by rw [hxl.out]; exact hlt
            have hxk := hid (hxe.out hkx)
            have hbk := hid (hbr.out x[k] (List.getElem_mem _))
            have hZr : HX Z wr := by
              rw [← hZ'.out]
              exact hOx.unX (hXu.ext hEx)
            have hyx : y < (xN R p c k j).length := by rw [xN_len]; exact hyc
            have hst : Hid ((xN R p c k j).set y (- ent R j k) = xN R p c k (j + 1)) := hid (by rw [← hgd.out]; rfl)
            obtain ⟨v, hv⟩ : ∃ v, x[k] = v := ⟨_, rfl⟩
            rw [hv] at hxk hbk
            have hv' := hid hv
            clear hx hc1 hy hv
            go_wp2_with (first | (with_reducible refine up_ix1 slInt (by omega) (by assumption) ?_) | (with_reducible refine up_ix1 slRats (by omega) (by assumption) ?_) | (with_reducible refine up_ixn slRat (by omega) (by assumption) ?_) | ((with_reducible show wpList _ _ _ (⟨_, .load 31 _, _, _, _, _⟩ :: _) _ _); refine st_loadElem stRat k hq1 hkx rfl (by simp) QC.agg ?_; intro u8 hu8; rw [hv'.out] at hu8; obtain ⟨s8, a8, n8, c8, d8, k8, e8, rfl⟩ := hu8.shape))
            refine (qneg Z wr _ v hZr (hu8.qv (by have := hbk.out; omega))).mono ?_
            rintro e w9 ⟨hE9, u9, rfl, hu9⟩
            have hO9 := hOx.ext0 QC.elem hE9
            rw [hxk.out] at hu9
            clear k00 hpc
            go_wp2_with (first | (with_reducible refine up_ixn slRat (by omega) (by assumption) ?_) | ((with_reducible show wpList _ _ _ (⟨_, .store 31 _ _, _, _, _, _⟩ :: _) _ _); refine st_store tyRat QC.elem y rfl (by simp) hO9 hyx _ (- ent R j k) rfl (by rw [hZ'.out]; exact hu9) ?_; intro w10 hO10 hE10))
            rw [hst.out] at hO10
            have hEx2 : Ext w4 w10 := (hEx.trans hE9).own hO9 (Nat.le_refl _) hE10
            go_roundw
            case rel => exact ⟨j + 1, by go_num, by omega, hO10, hEx2⟩
            case measure => simp [intOf]; omega
          · have hjl : j = pl := by omega
            subst hjl
            rw [hxf.out] at hOx
            obtain ⟨L, hL⟩ : ∃ L, (List.range c).map (nv (ent R) p k) = L := ⟨_, rfl⟩
            rw [hL] at hOx hps
            have hLl : L.length = c := by rw [← hL]; simp
            have hsx := hOx.sl QC.elem
            have hlc := hOx.lenCap
            have hOw := hO.ext0 RC.elem hEx
            have hszx := hEx.size
            clear hL
            go_wp2_with (at_builtin; refine st_append1n (l := nullK (ent R) p c k) slRats rfl RC.elem (by omega) (hXr'.out.ext hEx) q hlq.out rfl rfl hOw (.slice xo c c) L rfl ⟨xo, c, by rw [hLl], hlc, hsx⟩ (by omega) (by omega) ?_; intro oo2 co2 w11 hO11 hE11 hor)
            have hE12 := (hE.trans hEx).own hOw (Nat.le_refl _) hE11
            rw [← hps.out] at hO11
            have hlq2 : Hid ((nullK (ent R) p c (k + 1)).length = q + 1) := hid (by rw [hps.out, List.length_append, hlq.out]; rfl)
            go_roundw
            case rel => exact ⟨k + 1, q + 1, oo2, co2, by go_num, by go_num, by omega, by omega, hlq2, hO11, hE12⟩
            case measure => simp [intOf]; omega
    · have hkc : k = c := by omega
      subst hkc
      rw [hfull.out] at hO hlq
      have hc := hO.lenCap
      have hs := hO.sl RC.elem
      go_wp2_with fail
      go_ret2
      exact ⟨hE1.trans hE, .slice oo q co, rfl, oo, co, by rw [hlq.out], hc, hs⟩
end Go.Proofs.YtjbhcniiioepgaaGreat

namespace Go.Lin
open Go.Lim
theorem br_of {l : List Rat} {B : Nat} (h : ∀ x, x < l.length → hq (l.getD x 0) ≤ B) : Go.Rep.BR B l := fun q hq => by
  obtain ⟨x, hx, rfl⟩ := List.getElem_of_mem hq
  have := h x hx
  rwa [List.getD_eq_getElem?_getD, List.getElem?_eq_getElem hx] at this
theorem br_get {l : List Rat} {B : Nat} (h : Go.Rep.BR B l) (hB : 1 ≤ B) (x : Nat) : hq (l.getD x 0) ≤ B := by
  by_cases hx : x < l.length
  · rw [List.getD_eq_getElem?_getD, List.getElem?_eq_getElem hx]; exact h _ (List.getElem_mem _)
  · rw [List.getD_eq_getElem?_getD, List.getElem?_eq_none (by omega)]
    show hq 0 ≤ B
    rw [hq_zero]; exact hB
theorem list_ext0 {a b : List Rat} {n : Nat} (ha : a.length = n) (hb : b.length = n) (h : ∀ i, i < n → a.getD i 0 = b.getD i 0) : a = b := by
  refine List.ext_getElem (by omega) fun i h1 h2 => ?_
  have := h i (by omega)
  rwa [List.getD_eq_getElem?_getD, List.getElem?_eq_getElem h1, List.getD_eq_getElem?_getD, List.getElem?_eq_getElem h2] at this
theorem pow35' {k : Nat} (hk : k ≤ 4) : 35 ^ k ≤ 1500625 := Nat.le_trans (Nat.pow_le_pow_right (by omega) hk) (by decide)
theorem wideB_hb {m : Mat} {b : List Rat} {n c B : Nat} (hs : Shp n c m) (hm : HB B m) (hb : Go.Rep.BR B b) : HB B (wideB m b n) := fun i j => by
  have h1 := hm.pos
  by_cases hi : i < n
  · by_cases hj : j < c + 1
    · rw [ent_wideB hs i hi j hj]; unfold wideF
      split
      · exact br_get hb h1 i
      · exact hm i j
    · rw [ent_out (wideB_shp hs) (.inr (by omega)), hq_zero]; exact h1
  · rw [ent_out (wideB_shp (b := b) hs) (.inl (by omega)), hq_zero]; exact h1
theorem wideB_re {m : Mat} {b : List Rat} {n c : Nat} (hs : Shp n c m) : ∃ d, RE n (c + 1) (wideF c (ent m) fun i => b.getD i 0) (ent (redP (wideB m b n) (c + 1)).1) d := by
  obtain ⟨_, _, d, h3⟩ := redP_ok (wideB_shp (b := b) hs)
  exact ⟨d, h3.congr fun i hi j hj => (ent_wideB hs i hi j hj).symm⟩
theorem app_eq {m : Mat} {v b : List Rat} {n c : Nat} (hs : Shp n c m) (hb : b.length = n) (h : ∀ i, i < n → sm c (fun j => ent m i j * v.getD j 0) = b.getD i 0) : appL m v = b :=
  list_ext0 (by rw [appL_len]; exact hs.1) hb fun i hi => by rw [appL_sm hs i hi]; exact h i hi
/-- What Solve returns is a solution if there is one. -/
theorem sol_main {m : Mat} {n c : Nat} {x0 : List Rat} (hs : Shp n c m) : c ∉ (redP (wideB m (appL m x0) n) (c + 1)).2 ∧ appL m (solL (redP (wideB m (appL m x0) n) (c + 1)).1 (redP (wideB m (appL m x0) n) (c + 1)).2 c) = appL m x0 := by
  obtain ⟨d, hd⟩ := wideB_re (b := appL m x0) hs
  obtain ⟨_, h2, _⟩ := redP_ok (wideB_shp (b := appL m x0) hs)
  have h4 := sol_no h2 hd (fun j => x0.getD j 0) fun i hi => (appL_sm hs i hi).symm
  refine ⟨h4, app_eq hs (by rw [appL_len]; exact hs.1) fun i hi => ?_⟩
  have := sol_ok h2 hd h4 i hi
  rw [sm_congr fun j hj => by rw [solL_get h2 j hj]]
  exact this
theorem sol_len (R : Mat) (p : List Nat) (c : Nat) : (solL R p c).length = c := sN_len _ _ _ _
theorem sol_br {m : Mat} {b : List Rat} {n c B : Nat} (hs : Shp n c m) (hm : HB B m) (hb : Go.Rep.BR B b) : Go.Rep.BR (35 ^ n * B) (solL (redP (wideB m b n) (c + 1)).1 (redP (wideB m b n) (c + 1)).2 c) := br_of fun x hx => by
  obtain ⟨_, h2, _⟩ := redP_ok (wideB_shp (b := b) hs)
  have h5 := hb_redP (wideB_hb hs hm hb) (wideB_shp hs)
  rw [sol_len] at hx
  rw [solL_get h2 x hx]
  unfold solX
  split
  · exact h5 _ _
  · rw [hq_zero]; exact h5.pos
/-- The null vectors are null vectors. -/
theorem null_main {m : Mat} {n c B : Nat} (hs : Shp n c m) (hm : HB B m) : ∀ l ∈ nullL (ent (redP m c).1) (redP m c).2 c, l.length = c ∧ Go.Rep.BR (35 ^ n * B) l ∧ ∀ i, i < n → sm c (fun j => ent m i j * l.getD j 0) = 0 := fun l hl => by
  obtain ⟨j, hj, rfl⟩ := List.mem_map.1 hl
  rw [List.mem_filter, List.mem_range] at hj
  obtain ⟨_, h2, d, h3⟩ := redP_ok hs
  have h5 := hb_redP hm hs
  have hjp : j ∉ (redP m c).2 := by simpa using hj.2
  have hg : ∀ x, x < c → ((List.range c).map (nv (ent (redP m c).1) (redP m c).2 j)).getD x 0 = nv (ent (redP m c).1) (redP m c).2 j x := fun x hx => by simp [List.getD_eq_getElem?_getD, hx]
  refine ⟨by simp, br_of fun x hx => ?_, fun i hi => ?_⟩
  · rw [hg x (by simpa using hx)]
    unfold nv
    split
    · exact Nat.le_trans (show hq (1 : Rat) ≤ 1 by decide +kernel) h5.pos
    · split
      · rw [hq_neg]; exact h5 _ _
      · rw [hq_zero]; exact h5.pos
  · rw [sm_congr fun x hx => by rw [hg x hx]]
    exact (h3.nul _).2 (h2.nv_nul hjp hj.1) i hi
/-- Multiples of null vectors are added. -/
def xS (x : List Rat) (L : Mat) (f : Nat → Rat) : Nat → List Rat
  | 0 => x
  | i + 1 => List.zipWith (· + ·) (xS x L f i) ((L.getD i []).map (· * f i))
theorem xS_ok {m L : Mat} {x b : List Rat} {f : Nat → Rat} {n c B C : Nat} (hs : Shp n c m) (hx : x.length = c) (hxb : Go.Rep.BR B x) (hb : appL m x = b) (hL : ∀ l ∈ L, l.length = c ∧ Go.Rep.BR C l ∧ ∀ i, i < n → sm c (fun j => ent m i j * l.getD j 0) = 0) (hf : ∀ i, hq (f i) ≤ 2) (hB1 : 1 ≤ B) (hC1 : 1 ≤ C) (i : Nat) (hi : i ≤ L.length) :
    (xS x L f i).length = c ∧ Go.Rep.BR (B + i * (C + 3)) (xS x L f i) ∧ appL m (xS x L f i) = b := by
  induction i with
  | zero => exact ⟨hx, by show Go.Rep.BR (B + 0 * (C + 3)) x; rw [Nat.zero_mul, Nat.add_zero]; exact hxb, hb⟩
  | succ i ih =>
    obtain ⟨h1, h2, h3⟩ := ih (by omega)
    have hiL : i < L.length := by omega
    have e : L.getD i [] = L[i] := by simp [List.getD_eq_getElem?_getD, hiL]
    obtain ⟨k1, k2, k3⟩ := hL L[i] (List.getElem_mem _)
    have hl : (xS x L f (i + 1)).length = c := by
      show (List.zipWith _ _ _).length = c
      rw [List.length_zipWith, List.length_map, e, k1, h1, Nat.min_self]
    have hg : ∀ j, (xS x L f (i + 1)).getD j 0 = (xS x L f i).getD j 0 + L[i].getD j 0 * f i := fun j => by
      show (List.zipWith _ _ _).getD j 0 = _
      rw [zip_add _ _ (by rw [List.length_map, e, k1, h1]), getD_map_mul, e]
    refine ⟨hl, br_of fun j _ => ?_, ?_⟩
    · rw [hg]
      have a1 := hq_add ((xS x L f i).getD j 0) (L[i].getD j 0 * f i)
      have a2 := hq_mul (L[i].getD j 0) (f i)
      have a3 := br_get k2 hC1 j
      have a4 := br_get h2 (by omega) j
      have a5 := hf i
      rw [Nat.add_mul, Nat.one_mul]; omega
    · rw [← h3]
      refine app_eq hs (by rw [appL_len]; exact hs.1) fun r hr => ?_
      rw [appL_sm hs r hr, sm_congr (g := fun j => ent m r j * (xS x L f i).getD j 0 + f i * (ent m r j * L[i].getD j 0)) fun j _ => by rw [hg]; grind, sm_add, sm_mul, k3 r hr]; grind
/-- All that the law asks. -/
theorem sol_facts {n k : Nat} {m : Mat} {x0 b : List Rat} {f : Nat → Rat} (hn : n ≤ 4) (hk4 : k ≤ 4) (hs : Shp n k m) (hm : Go.Rep.BM 2 m) (hx : Go.Rep.BR 2 x0) (hb : appL m x0 = b) (hf : ∀ i, hq (f i) ≤ 2) :
    Tame (wideB m b n) (k + 1) ∧ Tame m k ∧ Go.Rep.BR 21 b ∧ k ∉ (redP (wideB m b n) (k + 1)).2 ∧ (solL (redP (wideB m b n) (k + 1)).1 (redP (wideB m b n) (k + 1)).2 k).length = k ∧
    (∀ l ∈ nullL (ent (redP m k).1) (redP m k).2 k, l.length = k ∧ Go.Rep.BR 3001250 l) ∧ (nullL (ent (redP m k).1) (redP m k).2 k).length ≤ k ∧
    ∀ i, i ≤ (nullL (ent (redP m k).1) (redP m k).2 k).length → (xS (solL (redP (wideB m b n) (k + 1)).1 (redP (wideB m b n) (k + 1)).2 k) (nullL (ent (redP m k).1) (redP m k).2 k) f i).length = k ∧ Go.Rep.BR 50000000 (xS (solL (redP (wideB m b n) (k + 1)).1 (redP (wideB m b n) (k + 1)).2 k) (nullL (ent (redP m k).1) (redP m k).2 k) f i) ∧ appL m (xS (solL (redP (wideB m b n) (k + 1)).1 (redP (wideB m b n) (k + 1)).2 k) (nullL (ent (redP m k).1) (redP m k).2 k) f i) = b := by
  have hmb := bm_hb hm (by decide)
  have hmb2 : HB 21 m := hmb.mono (by decide)
  have h35 := pow35' hn
  have h35a := Nat.mul_le_mul_right 21 h35
  have h35b := Nat.mul_le_mul_right 2 h35
  have hbb : Go.Rep.BR 21 b := by
    rw [← hb]
    intro q hq
    obtain ⟨r, hr, rfl⟩ := List.mem_map.1 hq
    have h1 := dotN_hq (hm r hr) hx (by decide) r.length
    rw [hs.2 r hr] at h1
    unfold dotL
    rw [hs.2 r hr]
    have : k * (2 * 2 + 1) ≤ 4 * (2 * 2 + 1) := Nat.mul_le_mul_right _ hk4
    omega
  have hnl := null_main hs hmb
  have hle : (nullL (ent (redP m k).1) (redP m k).2 k).length ≤ k := nullK_le _ _ _ _
  obtain ⟨s1, s2⟩ := sol_main (x0 := x0) hs
  rw [hb] at s1 s2
  refine ⟨tame_of (wideB_shp hs) (wideB_hb hs hmb2 hbb) (by omega), tame_of hs hmb (by omega), hbb, s1, sol_len _ _ _, fun l hl => ⟨(hnl l hl).1, fun q hq => Nat.le_trans ((hnl l hl).2.1 q hq) (by omega)⟩, hle, fun i hi => ?_⟩
  obtain ⟨a1, a2, a3⟩ := xS_ok (B := 31513125) (C := 3001250) (f := f) hs (sol_len _ _ _) (fun q hq => Nat.le_trans (sol_br hs hmb2 hbb q hq) (by omega)) s2 (fun l hl => ⟨(hnl l hl).1, fun q hq => Nat.le_trans ((hnl l hl).2.1 q hq) (by omega), (hnl l hl).2.2⟩) hf (by decide) (by decide) i hi
  refine ⟨a1, fun q hq => Nat.le_trans (a2 q hq) ?_, a3⟩
  have : i * (3001250 + 3) ≤ 4 * (3001250 + 3) := Nat.mul_le_mul_right _ (by omega)
  omega
end Go.Lin

namespace Go.Proofs.YtjbhcniiioepgaaGreat
open Go.RowKit Go.Rep Go.Lim Go.Lin

/-- The row that 'made.Vector' makes. -/
def vecL (k : Nat) (raw : List Int) : List Rat := (matL 1 k raw).getD 0 []
theorem vecL_len (k : Nat) (raw : List Int) : (vecL k raw).length = k := (matL_shp 1 k raw).row (by omega)
theorem vecL_br (k : Nat) (raw : List Int) : BR 2 (vecL k raw) := by
  have h : 0 < (matL 1 k raw).length := by rw [(matL_shp 1 k raw).1]; omega
  unfold vecL
  rw [show (matL 1 k raw).getD 0 [] = (matL 1 k raw)[0] by simp [List.getD_eq_getElem?_getD, h]]
  exact matL_bm 1 k raw _ (List.getElem_mem _)
theorem vector_any (X : Nat → Bool) (w : World) (c : Nat) (ao : Option Addr) (raw : List Int) (cap : Nat) (hX : HX X w) (hs : Sl (IntIn .i64) 1 (mk X w) ao raw) (hc : c ≤ 900) (hraw : ∀ x ∈ raw, -9223372036854775808 ≤ x ∧ x ≤ 9223372036854775807) : Calls Tryz.prog 58 #[.int .i64 (c : Int), .slice ao raw.length cap] w (ROut X w RC (vecL c raw)) := by
  have hM := matrix_any X w 1 c ao raw cap hX hs (by omega) hc hraw
  have hml := hid (matL_shp 1 c raw).1
  have hv : Hid (∀ h : 0 < (matL 1 c raw).length, (matL 1 c raw)[0] = vecL c raw) := hid fun h => by unfold vecL; simp [List.getD_eq_getElem?_getD, h]
  obtain ⟨M, hM2⟩ : ∃ M, matL 1 c raw = M := ⟨_, rfl⟩
  rw [hM2] at hM hml hv
  have h0 : Hid (0 < M.length) := hid (by rw [hml.out]; omega)
  have hv' := hid (hv.out h0.out)
  clear hM2 hv
  go_enter Tryz.func58, Tryz.ntmps58
  go_wp2_with fail
  refine hM.mono ?_
  rintro e w1 ⟨hE1, u, rfl, ao1, ca1, rfl, hca1, hs1⟩
  have hh : Hd ao1 1 := by have := hs1.hd; rw [hml.out] at this; exact this
  obtain ⟨a, c2, hX2, hc2, hcl2, hq2⟩ := hs1.row 0 h0.out
  have k00 := hc2.out noY w1 (ExtX.refl _) rfl
  rw [hml.out]
  obtain ⟨x, hx⟩ : ∃ x, M[0]'h0.out = x := ⟨_, rfl⟩
  have hx' := hid hx
  clear hc2
  rw [hx] at k00 hq2 hcl2
  clear hx
  go_wp2_with (with_reducible refine up_ix1 slRats (by omega) (by assumption) ?_)
  go_ret
  exact ⟨hE1, .slice a x.length c2, rfl, a, c2, by rw [← hv'.out, hx'.out], by rw [← hv'.out, hx'.out]; exact hcl2, by rw [← hv'.out, hx'.out]; exact hq2⟩
end Go.Proofs.YtjbhcniiioepgaaGreat
