/- matrix: echelon. Conditions: few rows and columns, numbers of at most 2^36 digits. The determinants and ranks that the program computes. Conditions: at most four rows for determinants. matrix: Rank, Det. Conditions: few rows and columns, numbers of few digits. Rows turned as law 06 turns them. Conditions: none. Bounds of determinants and products, for law 06. Conditions: none. -/
import Derived.Test.YtjbhcniiioepgaaGreatPrR
namespace Go.Lin
theorem eN_succ (m : Mat) (k : Nat) : eN m (k + 1) = eStep (eN m k) k := rfl
/-- Bounds that an elimination wants. -/
theorem elim_bounds {n c B t i col : Nat} {m : Mat} (hs : Shp n c m) (h : HB B m) (ht : t < n) (hi : i < n) (hB : 5 * B ≤ 68719476736) :
    Go.Rep.BR 68719476736 (m.getD i []) ∧ Go.Rep.BR 68719476736 (m.getD t []) ∧ Go.Lim.hq ((m.getD i []).getD col 0 / (m.getD t []).getD col 0) ≤ 68719476736 ∧ ∀ x ∈ m.getD t [], Go.Lim.hq ((m.getD i []).getD col 0 / (m.getD t []).getD col 0 * x) ≤ 68719476736 := by
  have hrow : ∀ k, Go.Rep.BR B (m.getD k []) := fun k q hq => by
    obtain ⟨j, hj, rfl⟩ := List.getElem_of_mem hq
    have e : (m.getD k []).getD j 0 = (m.getD k [])[j] := by rw [List.getD_eq_getElem?_getD, List.getElem?_eq_getElem hj]; rfl
    rw [← e]; exact h k j
  have h1 := h i col
  have h2 := h t col
  unfold ent at h1 h2
  have h3 := Go.Lim.hq_div ((m.getD i []).getD col 0) ((m.getD t []).getD col 0)
  refine ⟨fun q hq => Nat.le_trans (hrow i q hq) (by omega), fun q hq => Nat.le_trans (hrow t q hq) (by omega), by omega, fun x hx => ?_⟩
  have h4 := hrow t x hx
  have h5 := Go.Lim.hq_mul ((m.getD i []).getD col 0 / (m.getD t []).getD col 0) x
  omega
theorem HB.bm {B : Nat} {m : Mat} (h : HB B m) : Go.Rep.BM B m := fun r hr q hq => by
  obtain ⟨i, hi, rfl⟩ := List.getElem_of_mem hr
  obtain ⟨j, hj, rfl⟩ := List.getElem_of_mem hq
  have := h i j
  simpa [ent, List.getD_eq_getElem?_getD, hi, hj] using this
end Go.Lin
namespace Go.Rep
theorem Sl.fromA {α : Type} {R : Mem → Value → α → Prop} {h : Mem} {ao ao' : Option Addr} {l : List α} (s : Sl R 1 h ao l) (i : Nat) (ha : ∀ k, k < l.length - i → adr ao' k = adr ao (i + k)) (hd : Hd ao' (l.length - i)) : Sl R 1 h ao' (l.drop i) := by
  refine ⟨by rw [List.length_drop]; exact hd, fun k hk => ?_⟩
  rw [List.length_drop] at hk
  obtain ⟨u, h1, h2, h3⟩ := s.2 (i + k) (by omega)
  refine ⟨u, h1, fun j hj => ?_, by simpa using h3⟩
  have hj0 : j = 0 := by omega
  subst hj0
  have := h2 0 hj
  simp only [Nat.mul_one, Nat.add_zero] at this ⊢
  rw [ha k hk]; exact this
theorem map_adr {ao : Option Addr} {n i : Nat} (hd : Hd ao n) (hn : 0 < n) (k : Nat) : adr (Option.map (fun x => x.add i) ao) k = adr ao (i + k) := by
  obtain ⟨b, off, rfl⟩ := hd hn
  simp [Addr.add_lit, adr, Nat.add_assoc]
theorem NatIn.pure (k : IntKind) : ∀ h h' u x, NatIn k h u x → NatIn k h' u x := fun _ _ _ _ h => h
theorem map_hd {ao : Option Addr} {n i m : Nat} (hd : Hd ao n) (hn : 0 < n) : Hd (Option.map (fun x => x.add i) ao) m := fun _ => by
  obtain ⟨b, off, rfl⟩ := hd hn
  exact ⟨b, off + i, by simp [Addr.add_lit]⟩
end Go.Rep
namespace Go.Proofs.YtjbhcniiioepgaaGreat
open Go.RowKit Go.Rep Go.Lim Go.Lin

/-- What echelon leaves: the pivots, and the rows turned. -/
def ChOut (X : Nat → Bool) (base : Nat) (w : World) (ao : Option Addr) (cap : Nat) (hs : List Hdr) (s : St) (e : Ending) (w' : World) : Prop :=
  ExtX (mb ao hs) w w' ∧ ∃ po pc hs', e = .returned (.tuple #[.slice po s.2.1.length pc, .bool s.2.2]) ∧ mb ao hs' = mb ao hs ∧ MO (un X po) base 33 31 w' ao cap hs' s.1 ∧ OL (NatIn .i64) 1 (mz X ao hs) w.heap.size 3 w' po pc s.2.1

set_option maxRecDepth 100000 in
set_option maxHeartbeats 1600000 in
theorem echelon_any (X : Nat → Bool) (base : Nat) (w : World) (ao : Option Addr) (cap n c : Nat) (hs : List Hdr) (m : List (List Rat)) (hX : HX X w) (hM : MO X base 33 31 w ao cap hs m) (hsh : Shp n c m) (hc : colsL m = c) (hn : n ≤ 900) (hcc : c ≤ 900) (hT : Tame m c) :
    Calls Tryz.prog 95 #[.slice ao n cap] w (ChOut X base w ao cap hs (eN m c)) := by
  have hml := hid hsh.1
  have hmc : MC (mk X w) (.slice ao n cap) m := by have := hM.mc; rw [hml.out] at this; exact this
  have hcol := columns_any X w _ m hmc
  rw [hc] at hcol
  have hlen := hid (hM.len.trans hml.out)
  have hcap : n ≤ cap := by have := hM.capLen; rw [hml.out] at this; exact this
  have hhO : Hd ao n := by have := hM.outer.hd; rw [hlen.out] at this; exact this
  have hn0 : Hid (n = 0 → c = 0) := hid fun h => by
    have : m = [] := List.eq_nil_of_length_eq_zero (by rw [hml.out]; exact h)
    rw [← hc, this]; rfl
  have hsh' := hid hsh
  obtain ⟨B, hB7, hBj, _⟩ := hT
  have hB' := hid hBj
  have hBB' := hid hB7
  have hund : un X none = X := by funext k; simp [un, ob]
  have hMu : MO (un X none) base 33 31 w ao cap hs m := by rw [hund]; exact hM
  have hXz := hM.hz hX
  clear hsh hBj hB7 hc hmc
  go_enter Tryz.func95, Tryz.ntmps95
  go_wp2_with fail
  refine hcol.mono ?_
  rintro e w1 ⟨rfl, rfl⟩
  clear hcol
  go_wp2_with fail
  go_loopw [2, 3, 11] (fun p o k wr => ∃ (j : Nat) (po : Option Addr) (pc pl : Nat) (hs' : List Hdr) (M : Mat) (P : List Nat) (od : Bool), k = .int .i64 j ∧ p = .slice po pl pc ∧ o = .bool od ∧ j ≤ c ∧ Hid (P.length = pl) ∧ Hid (eN m j = (M, P, od)) ∧ Hid (j < c → pl < n) ∧ MO (un X po) base 33 31 wr ao cap hs' M ∧ OL (NatIn .i64) 1 (mz X ao hs) w1.heap.size 3 wr po pc P ∧ Hid (mb ao hs' = mb ao hs) ∧ ExtX (mb ao hs) w1 wr) (fun _ _ k _ => c - (intOf k).toNat)
  case atStart => exact ⟨0, none, 0, 0, hs, m, [], false, rfl, rfl, rfl, Nat.zero_le _, hid rfl, hid rfl, hid (fun h => by have := hn0.out; omega), hMu, OL.nil _ _ _ _ _ _, hid rfl, ExtX.refl _⟩
  case round =>
    obtain ⟨j, po, pc, pl, hs', M, P, od, rfl, rfl, rfl, hj, hpl, hst, hpn, hM, hP, hmb, hE⟩ := hrel
    by_cases hlj : j < c
    · have hpn2 := hpn.out hlj
      have hok := eN_ok hsh'.out j
      rw [hst.out] at hok
      have hshM : Shp n c M := hok.shp
      have hMl := hid hshM.1
      have hhl := hid (hM.len.trans hMl.out)
      have hXr : HX X wr := hX.ext hE
      have hXu : HX (un X po) wr := fun k hk => by
        by_cases hx : X k = true
        · exact hXr k hx
        · exact (hP.block (by simpa [un, hx] using hk)).2
      have hBM : HB B M := by have := hB'.out j (by omega); rw [hst.out] at this; exact this
      have hb5' : 5 * B ≤ 68719476736 := by have := hBB'.out; omega
      have hBM2 := hid (hBM.bm)
      have hEb : Ext wr (wr.alloc (.cells #[.int .i64 (j : Int)] 3)) := (ExtX.refl wr).alloc _
      have hbx : (wr.alloc (.cells #[.int .i64 (j : Int)] 3)).cell? ⟨wr.heap.size, 0, none⟩ = some (.int .i64 (j : Int)) := cell_new 0 rfl
      have hM1 := hM.ext0 hEb
      have hP1 := hP.ext0 (NatIn.elem _) hEb
      have hX1 := hXu.ext hEb
      have hSl : Sl RC 1 (mk (un X po) (wr.alloc (.cells #[.int .i64 (j : Int)] 3))) ao M := by
        obtain ⟨_, _, heq, _, h3⟩ := hM1.mc
        simp only [Value.slice.injEq] at heq
        obtain ⟨rfl, _, rfl⟩ := heq
        exact h3
      obtain ⟨bw, hbw⟩ : ∃ bw, wr.heap.size = bw := ⟨_, rfl⟩
      obtain ⟨w2, hw2⟩ : ∃ w2, wr.alloc (.cells #[.int .i64 (j : Int)] 3) = w2 := ⟨_, rfl⟩
      rw [hw2] at hEb hbx hM1 hP1 hX1 hSl
      rw [hbw] at hbx
      have hpbw : Hid (ob po bw = false) := hid (by rw [← hbw]; exact hP.ob_ge (Nat.le_refl _))
      have hobw : Hid (ob ao bw = false) := hid (by rw [← hbw]; exact hM.outer.ob_ge (Nat.le_refl _))
      have hw2' := hid hw2
      have hbw' := hid hbw
      have hn1 : 0 < n := by omega
      have hmd : Hid (n - pl = (M.drop pl).length) := hid (by rw [List.length_drop, hMl.out])
      have hSd : Sl RC 1 (mk (un X po) w2) (Option.map (fun x => x.add pl) ao) (M.drop pl) := hSl.fromA pl (fun k _ => map_adr hhO hn1 k) (map_hd hhO hn1)
      have hrows : Hid (∀ r ∈ M.drop pl, r.length = c) := hid fun r hr => hshM.2 r (List.mem_of_mem_drop hr)
      have hbmd : Hid (BM 68719476736 (M.drop pl)) := hid fun r hr q hq => Nat.le_trans (hBM2.out r (List.mem_of_mem_drop hr) q hq) (by omega)
      have hix := indexfunc_any (un X po) w2 _ (M.drop pl) (n - pl) (cap - pl) c j bw hX1 hSd hmd.out.symm (by omega) hrows.out hlj hbmd.out hbx
      obtain ⟨F, hF⟩ : ∃ F, (M.drop pl).findIdx? (fun r => decide (r.getD j 0 ≠ 0)) = F := ⟨_, rfl⟩
      rw [hF] at hix
      have hnz : Hid (nzAt M P.length j = F) := hid (by rw [hpl.out]; exact hF)
      clear hF hSd hSl
      go_wp2_with fail
      refine hix.mono ?_
      rintro e w3 ⟨hE3, rfl⟩
      have hM3 := hM1.ext0 hE3
      have hP3 := hP1.ext0 (NatIn.elem _) hE3
      have hb3 := hE3.cell hbx
      have hE03 := hE.trans (ExtX.of (hEb.trans hE3))
      clear hM1 hP1 hix hbx hw2
      match F, hnz with
      | none, hnz =>
        have hst2 : Hid (eN m (j + 1) = (M, P, od)) := hid (by
          rw [eN_succ, hst.out]; unfold eStep; dsimp only
          split
          · rfl
          · rw [hnz.out])
        simp only [idxI]
        go_wp2_with fail
        go_roundw
        case rel => exact ⟨j + 1, po, pc, pl, hs', M, P, od, by go_num, rfl, rfl, by omega, hpl, hst2, hid (fun _ => hpn2), hM3, hP3, hmb, hE03⟩
        case measure => simp [intOf]; omega
      | some q, hnz =>
        obtain ⟨hq1, hq2⟩ := nzAt_some hnz.out
        rw [hpl.out, hMl.out] at hq1
        have hq0 : ¬ (q : Int) < 0 := by omega
        simp only [idxI]
        clear hq2
        have hr1 : pl + q < hs'.length := by rw [hhl.out]; exact hq1
        have hr2 : pl < hs'.length := by rw [hhl.out]; exact hpn2
        obtain ⟨a1, n1, c1, hh1⟩ : ∃ a n c, hs'[pl] = (a, n, c) := ⟨_, _, _, rfl⟩
        obtain ⟨a2, n2, c2, hh2⟩ : ∃ a n c, hs'[pl + q] = (a, n, c) := ⟨_, _, _, rfl⟩
        have hO0 := hM3.outer
        obtain ⟨z1, zf1⟩ := hM3.hdr pl hr2
        obtain ⟨z2, zf2⟩ := hM3.hdr (pl + q) hr1
        rw [hh1] at z1
        rw [hh2] at z2
        dsimp only at z1 z2
        have k1 : w3.cell? (adr ao pl) = some (.slice a1 n1 c1) := z1
        have k2 : w3.cell? (adr ao (pl + q)) = some (.slice a2 n2 c2) := z2
        have f1 : w3.frozen? (adr ao pl) = false := zf1
        have f2 : w3.frozen? (adr ao (pl + q)) = false := zf2
        obtain ⟨hO1, hE4⟩ := hO0.set1 tyRats HdR.elem HdR.one pl hr2 (.slice a2 n2 c2) (a2, n2, c2) rfl
        obtain ⟨u3, k3, f3, hu3⟩ := hO1.cell HdR.one (pl + q) (by simpa using hr1)
        have hu3' : u3 = .slice a2 n2 c2 := by
          have e : (hs'.set pl (a2, n2, c2))[pl + q]'(by simpa using hr1) = (a2, n2, c2) := by
            rw [List.getElem_set]; split
            · rfl
            · exact hh2
          rw [e] at hu3; exact hu3
        rw [hu3'] at k3
        obtain ⟨hO2, hE5⟩ := hO1.set1 tyRats HdR.elem HdR.one (pl + q) (by simpa using hr1) (.slice a1 n1 c1) (a1, n1, c1) rfl
        have hE6 := (hE4.trans hE5).drew
        have hO2 := hO2.ext0 HdR.elem (ExtX.refl (Y := noY) _).drew
        rw [← hh1, ← hh2] at hO2
        have i1 : ∀ W, (Instr.indexAt 23 (.slice ao n cap) (.int .i64 (pl : Int))).run Tryz.prog W = .ok (.pointer (some (adr ao pl))) W := run_ix1 slRats ao n cap .i64 pl hhO (by omega) rfl
        have i2 : ∀ W, (Instr.indexAt 23 (.slice ao n cap) (.int .i64 ((pl : Int) + (q : Int)))).run Tryz.prog W = .ok (.pointer (some (adr ao (pl + q)))) W := run_ix1 slRats ao n cap .i64 (pl + q) hhO (by omega) (by omega)
        have ew : IntKind.i64.wrap ((pl : Int) + (q : Int)) = (pl : Int) + (q : Int) := IntWalk.i64_in _ (by omega)
        have hM5 := hM3.swap hr2 hr1 hE6 hO2
        have hX5 := hX1.ext hE3
        have hP5 : OL (NatIn .i64) 1 (mz X ao hs) w1.heap.size 3 _ po pc P := hP3.frame (NatIn.pure _) hE6 (fun k hk => by
          cases hb : ob ao k
          · rfl
          · have := (hM3.out_sep hb).1; rw [un_right hk] at this; simp at this) hP3.1
        have hb5 := hE6.cellY hb3 hobw.out
        clear hu3 hu3' hO0 hO1 hO2 z1 z2 zf1 zf2 hh1 hh2 hE4 hE5
        go_wp2_with fail
        go_region
        obtain ⟨w5, hw5⟩ : ∃ w5, ((w3.setCell (adr ao pl) (.slice a2 n2 c2)).setCell (adr ao (pl + q)) (.slice a1 n1 c1)).drew = w5 := ⟨_, rfl⟩
        rw [hw5] at hM5 hP5 hb5 hE6 ⊢
        have hE05 := hE03.trans (ExtX.weaken hE6 fun k _ hk => (ob_mb hk).1)
        have hX5 := hX5.ext hE6
        have hXz5 := hXz.ext hE05
        have hbase5 := hE05.size
        clear k1 k2 k3 f1 f2 f3 i1 i2 hw5 hb3
        have hpl5 : pl + 1 ≤ n := hpn2
        go_wp2_with (first | ((with_reducible show wpList _ _ _ (⟨_, .slice _ _ _ _ _, _, _, _, _⟩ :: _) _ _); refine st_fromA slRats n (pl + 1) rfl rfl (by omega) hhO hpl5 hcap ?_; intro ao3 ha3 hd3; replace ha3 := hid ha3) | (at_builtin; refine st_append1n (l := P) slInt rfl (NatIn.elem .i64) hbase5 hXz5 pl hpl.out rfl rfl hP5 (.int .i64 (j : Int)) j rfl rfl (by omega) (by omega) ?_; intro po2 pc2 w6 hP6 hE7 hor; have b6 := hE7.cellY hb5 hpbw.out))
        have hM6 : MO (un X po2) base 33 31 w6 ao cap _ _ := hM5.ext (X' := un X po2) hE7 (fun k _ hk => un_right hk) (fun k hk hz => by
          by_cases hx : X k = true
          · exact un_left hx
          · have h2 : ob po2 k = true := by simpa [un, hx] using hz
            rcases hor with rfl | ⟨g, rfl, hg⟩
            · exact un_right h2
            · have : g = k := by simpa [ob] using h2
              omega)
        have hE06 : ExtX (mb ao hs) w1 w6 := hE05.then_ hE7 fun k hk _ => hP5.ob_lt hk
        have hmb2 : Hid (mb ao ((hs'.set pl hs'[pl + q]).set (pl + q) hs'[pl]) = mb ao hs) := hid (by rw [← hmb.out]; exact (obs_congr (X := X) fun k => by rw [obs_swap hr2 hr1]).1)
        have hh2l : Hid (((hs'.set pl hs'[pl + q]).set (pl + q) hs'[pl]).length = n) := hid (by simp [hhl.out])
        have hsh2 : Shp n c (swapL M pl (pl + q)) := hshM.swap hpn2 hq1
        have hBM2' : HB B (swapL M pl (pl + q)) := hBM.swap hshM hpn2 hq1
        have hst2 : Hid (eN m (j + 1) = (clear (swapL M pl (pl + q)) pl j n, P ++ [j], od != decide (q ≠ 0))) := hid (by
          rw [eN_succ, hst.out]; unfold eStep; dsimp only
          rw [if_neg (by rw [hpl.out, hMl.out]; omega), hnz.out]
          dsimp only
          rw [hpl.out, hMl.out])
        have hbnd : Hid (∀ i, i < n → BR 68719476736 ((swapL M pl (pl + q)).getD i []) ∧ BR 68719476736 ((swapL M pl (pl + q)).getD pl []) ∧ hq (((swapL M pl (pl + q)).getD i []).getD j 0 / ((swapL M pl (pl + q)).getD pl []).getD j 0) ≤ 68719476736 ∧ ∀ x ∈ (swapL M pl (pl + q)).getD pl [], hq (((swapL M pl (pl + q)).getD i []).getD j 0 / ((swapL M pl (pl + q)).getD pl []).getD j 0 * x) ≤ 68719476736) := hid fun i hi => elim_bounds hsh2 hBM2' hpn2 hi hb5'
        have hmbw : Hid (mb ao hs bw = false) := hid (by
          rw [← hmb.out]
          cases hb : mb ao hs' bw
          · rfl
          · have := (hM.mb_block hb).2; omega)
        obtain ⟨hs2, hhs2⟩ : ∃ hs2, (hs'.set pl hs'[pl + q]).set (pl + q) hs'[pl] = hs2 := ⟨_, rfl⟩
        obtain ⟨M2, hM2⟩ : ∃ M2, swapL M pl (pl + q) = M2 := ⟨_, rfl⟩
        rw [hhs2] at hM6 hmb2 hh2l
        rw [hM2] at hM6 hsh2 hBM2' hst2 hbnd
        clear hhs2 hM2
        have hM2l := hid hsh2.1
        have hX6 : HX X w6 := hX.ext hE06
        have hM6' : MO (un X po2) base 33 31 w6 ao cap hs2 (clear M2 pl j 0) := by rw [clear_zero]; exact hM6
        go_loopw [54] (fun k wx => ∃ (s : Nat), k = .int .i64 s ∧ s ≤ n - (pl + 1) ∧ MO (un X po2) base 33 31 wx ao cap hs2 (clear M2 pl j s) ∧ OL (NatIn .i64) 1 (mz X ao hs) w1.heap.size 3 wx po2 pc2 (P ++ [j]) ∧ ExtX (mb ao hs) w1 wx ∧ wx.cell? ⟨bw, 0, none⟩ = some (.int .i64 (j : Int))) (fun k _ => n - (pl + 1) - (intOf k).toNat)
        case atStart => exact ⟨0, rfl, Nat.zero_le _, hM6', hP6, hE06, b6⟩
        case round =>
          obtain ⟨s, rfl, hs9, hM8, hP8, hE8, b8⟩ := hrel
          by_cases hls : s < n - (pl + 1)
          · obtain ⟨t, ht⟩ : ∃ t, pl + 1 + s = t := ⟨_, rfl⟩
            have htn : t < n := by omega
            have hth : t < hs2.length := by rw [hh2l.out]; exact htn
            have hph : pl < hs2.length := by rw [hh2l.out]; exact hpn2
            have htm : t < M2.length := by rw [hM2l.out]; exact htn
            have hpm : pl < M2.length := by rw [hM2l.out]; exact hpn2
            have htc : t < (clear M2 pl j s).length := by rw [clear_len]; exact htm
            have hpc : pl < (clear M2 pl j s).length := by rw [clear_len]; exact hpm
            obtain ⟨a1, n1, c1, hh1⟩ : ∃ a n c, hs2[t] = (a, n, c) := ⟨_, _, _, rfl⟩
            obtain ⟨a2, n2, c2, hh2⟩ : ∃ a n c, hs2[pl] = (a, n, c) := ⟨_, _, _, rfl⟩
            have hg1 : (clear M2 pl j s)[t] = M2[t] := by rw [clear_get htc htm, if_neg (by omega)]
            have hg2 : (clear M2 pl j s)[pl] = M2[pl] := by rw [clear_get hpc hpm, if_neg (by omega)]
            have hn1' : n1 = c := by
              have := hM8.rlen t hth htc
              rw [hh1, hg1, hsh2.2 _ (List.getElem_mem _)] at this; exact this
            have hn2' : n2 = c := by
              have := hM8.rlen pl hph hpc
              rw [hh2, hg2, hsh2.2 _ (List.getElem_mem _)] at this; exact this
            subst hn1'
            subst hn2'
            have hR1 := hM8.row t hth htc
            have hR2 := hM8.row pl hph hpc
            rw [hg1] at hR1
            rw [hg2] at hR2
            simp only [hh1] at hR1
            simp only [hh2] at hR2
            have hz1 := fun k (hk : ob a1 k = true) => hM8.mz_sub hth k (by rw [hh1]; exact hk)
            have hz2 := fun k (hk : ob a2 k = true) => hM8.mz_sub hph k (by rw [hh2]; exact hk)
            have hds : ∀ k, ob a1 k = true → ob a2 k = false := fun k hk => by
              have := hM8.dis t pl hth hph (by omega) k (by rw [hh1]; exact hk)
              rw [hh2] at this; exact this
            have hsp := fun k (hk : ob a1 k = true) => hM8.sep t hth k (by rw [hh1]; exact hk)
            have hBn := hbnd.out t htn
            rw [getD_row htm] at hBn
            have hcs : Hid ((clear M2 pl j s).set t (elimL M2[t] (M2.getD pl []) j) = clear M2 pl j (s + 1)) := hid (by subst ht; exact clear_set htm)
            have hpe : M2.getD pl [] = M2[pl] := getD_row hpm
            rw [← hpe] at hR2
            have hrl1 := hid (hsh2.2 M2[t] (List.getElem_mem _))
            have hrl2 := hid (show (M2.getD pl []).length = n2 by rw [hpe]; exact hsh2.2 _ (List.getElem_mem _))
            obtain ⟨row, hrow⟩ : ∃ row, M2[t] = row := ⟨_, rfl⟩
            obtain ⟨piv, hpiv⟩ : ∃ piv, M2.getD pl [] = piv := ⟨_, rfl⟩
            rw [hrow, hpiv] at hcs
            rw [hrow] at hR1 hrl1
            rw [hpiv] at hR2 hrl2
            rw [hrow, hpiv] at hBn
            have hX8 : HX (un X po2) wr := fun k hk => by
              by_cases hx : X k = true
              · exact hX.ext hE8 k hx
              · exact (hP8.block (by simpa [un, hx] using hk)).2
            have hZ8 := hM8.hz hX8
            have hEd : Ext wr wr.drew := (ExtX.refl wr).drew
            have hel := eliminate_any (mz (un X po2) ao hs2) base wr.drew a1 a2 c1 c2 n2 j row piv hZ8 (hR1.ext0 QC.elem hEd) (hR2.ext0 QC.elem hEd) hz1 hz2 hds hrl1.out hrl2.out (by omega) hlj hBn.1 hBn.2.1 hBn.2.2.1 hBn.2.2.2
            have y1 : wr.cell? (adr ao3 s) = some (.slice a1 n2 c1) := by
              have := (hM8.hdr t hth).1
              rw [hh1, ← ht] at this
              rw [ha3.out s hls]; exact this
            have y2 : wr.drew.cell? (adr ao pl) = some (.slice a2 n2 c2) := by
              have := (hM8.hdr pl hph).1
              rw [hh2] at this
              exact this
            have y3 : wr.drew.cell? ⟨bw, 0, none⟩ = some (.int .i64 (j : Int)) := b8
            have haob : Hid (ob a1 (adr ao pl).block = false) := hid (by
              cases hb : ob a1 (adr ao pl).block
              · rfl
              · have h1 := (hsp _ hb).2
                obtain ⟨b0, o0, rfl⟩ := hhO (by omega)
                simp [ob, adr] at h1)
            have habw : Hid (ob a1 bw = false) := hid (by
              cases hb : ob a1 bw
              · rfl
              · have h5 : mb ao hs2 bw = true := mb_iff.2 (.inr (obs_get hth (show ob hs2[t].1 bw = true by rw [hh1]; exact hb)))
                rw [hmb2.out, hmbw.out] at h5; simp at h5)
            have i1 : ∀ W, (Instr.indexAt 23 (.slice ao n cap) (.int .i64 (pl : Int))).run Tryz.prog W = .ok (.pointer (some (adr ao pl))) W := run_ix1 slRats ao n cap .i64 pl hhO (by omega) rfl
            have hh1' := hid hh1
            replace ht := hid ht
            clear hg1 hg2 hpe hrow hpiv hh1 hh2 hR1 hR2 hBn
            go_wp2_with (with_reducible refine up_ix1 slRats (by omega) (by assumption) ?_)
            go_region_held3 (fun w' => w'.cell? (adr ao pl) = some (.slice a2 n2 c2) ∧ w'.cell? ⟨bw, 0, none⟩ = some (.int .i64 (j : Int)))
              (first | exact ⟨t1.cellY y2 haob.out, t1.cellY y3 habw.out⟩ | go_keep)
              ((go_at_call 136; (with_reducible refine hel.mono ?_); rintro ee w7 ⟨rfl, t1, hO7⟩))
            have b9 := t1.cellY y3 habw.out
            have hEr : ExtX (ob hs2[t].1) wr.drew w7 := by rw [hh1'.out]; exact t1
            have hM9 := (hM8.ext0 hEd).upd hth (l := elimL row piv j) hEr (fun hi' => by
              rw [clear_get htc htm, if_neg (by have := ht.out; omega), elimL_len _ _ _ (by rw [hrl1.out, hrl2.out]), hrl2.out]
              exact (hsh2.2 _ (List.getElem_mem _)).symm) (by rw [hh1'.out]; exact hO7)
            rw [hcs.out] at hM9
            have hP9 := (hP8.ext0 (NatIn.elem _) hEd).frame (NatIn.pure _) t1 (fun k hk => by
              cases hb : ob a1 k
              · rfl
              · have := (hsp k hb).1; rw [un_right hk] at this; simp at this) hP8.1
            have hE9 := (hE8.trans (ExtX.of hEd)).trans (by rw [← hmb2.out]; exact ExtX.row hth hEr)
            clear y1 y2 y3 i1
            go_wp2_with fail
            go_roundw
            case rel => exact ⟨s + 1, by go_num, by omega, hM9, hP9, hE9, b9⟩
            case measure => simp [intOf]; omega
          · have hfin : Hid (clear M2 pl j s = clear M2 pl j n) := hid (clear_full (by rw [hM2l.out]; omega) (by rw [hM2l.out]; omega))
            rw [hfin.out] at hM8
            have hodd : Hid ((!(od == ((q : Int) != 0))) = (od != decide (q ≠ 0))) := hid (by cases od <;> by_cases h : q = 0 <;> simp [h])
            have hpl2 : Hid ((P ++ [j]).length = pl + 1) := hid (by simp [hpl.out])
            by_cases hfull : pl + 1 = n
            · have hne : (((pl + 1 : Nat) : Int) == (n : Int)) = true := beqT (by omega)
              have hne2 : (((pl : Int) + 1) == (n : Int)) = true := beqT (by omega)
              have hstop : Hid (eN m c = (clear M2 pl j n, P ++ [j], od != decide (q ≠ 0))) := hid (by
                rw [eN_stop m (j + 1) (by rw [hst2.out]; dsimp only; rw [hpl2.out, clear_len, hM2l.out]; exact hfull) c (by omega)]; exact hst2.out)
              clear hfull
              go_wp2_with fail
              go_ret2
              rw [hstop.out]
              exact ⟨hE8, po2, pc2, hs2, by rw [hpl2.out, ← hodd.out]; rfl, hmb2.out, hM8, hP8⟩
            · have hne : (((pl + 1 : Nat) : Int) == (n : Int)) = false := beqF (by omega)
              have hne2 : (((pl : Int) + 1) == (n : Int)) = false := beqF (by omega)
              have hpn3 : Hid (j + 1 < c → pl + 1 < n) := hid fun _ => by omega
              clear hfull
              go_wp2_with fail
              go_roundw
              case rel => exact ⟨j + 1, po2, pc2, pl + 1, hs2, _, _, _, by go_num, rfl, by rw [hodd.out], by omega, hpl2, hst2, hpn3, hM8, hP8, hmb2, hE8⟩
              case measure => simp [intOf]; omega
    · have hjc : j = c := by omega
      subst hjc
      go_wp2_with fail
      go_ret2
      rw [hst.out]
      exact ⟨hE, po, pc, hs', by rw [hpl.out]; rfl, hmb.out, hM, hP⟩
end Go.Proofs.YtjbhcniiioepgaaGreat

namespace Go.Lin
open Go.Lim
/-- What the program's Det computes. -/
noncomputable def detV (m : Mat) (n : Nat) : Rat := if (eN m n).2.2 then - pr n (fun i => ent (eN m n).1 i i) else pr n (fun i => ent (eN m n).1 i i)
theorem detV_det {n : Nat} {m : Mat} (hn : n ≤ 4) (hs : Shp n n m) : detV m n = det n (ent m) := by
  have hk := eN_ok hs n
  have h1 := hk.ech.det hn
  have h2 := hk.re.det_same hn
  unfold detV
  rw [← h1, h2]
  split <;> grind
theorem pr_hq {B : Nat} {f : Nat → Rat} (h : ∀ i, hq (f i) ≤ B) (n : Nat) : hq (pr n f) ≤ 1 + n * B := by
  induction n with
  | zero => show hq 1 ≤ _; have h3 : hq 1 = 1 := by decide +kernel
            omega
  | succ n ih =>
    have h1 := hq_mul (pr n f) (f n)
    have h2 := h n
    show hq (pr n f * f n) ≤ _
    rw [Nat.add_mul, Nat.one_mul]; omega
/-- What the program's Rank computes. -/
noncomputable def rankV (m : Mat) (c : Nat) : Nat := (eN m c).2.1.length
theorem rankV_red (m : Mat) (c : Nat) : rankV m c = (redP m c).2.length := rfl
theorem rank_full {n : Nat} {m : Mat} (hn : n ≤ 4) (hs : Shp n n m) : rankV m n = n ↔ detV m n ≠ 0 := by
  rw [detV_det hn hs, rankV_red]
  obtain ⟨h1, h2, d, h3⟩ := redP_ok hs (c := n)
  have h4 := h3.det_same hn
  have h5 := h2.det hn
  have h6 := h3.ne
  by_cases e : (redP m n).2.length = n
  · rw [if_pos e] at h5
    refine ⟨fun _ h => ?_, fun _ => e⟩
    rw [h5, h] at h4; grind
  · rw [if_neg e] at h5
    refine ⟨fun h => absurd h e, fun h => ?_⟩
    rw [h5] at h4
    rcases Rat.mul_eq_zero.1 h4.symm with h7 | h7
    · exact absurd h7 h6
    · exact absurd h7 h
theorem rank_trL {n c : Nat} {m : Mat} (hs : Shp n c m) : rankV (trL m n c) n = rankV m c := by
  obtain ⟨_, h2, d, h3⟩ := redP_ok hs (c := c)
  obtain ⟨_, k2, e, k3⟩ := redP_ok (trL_shp m n c)
  exact (rank_tr h2 h3 k2 (k3.congr fun i hi j hj => (ent_trL m n c i hi j hj).symm)).symm
theorem det_mulL {n : Nat} {a b : Mat} (hn : n ≤ 4) (ha : Shp n n a) (hb : Shp n n b) : detV (mulL a b n n) n = detV a n * detV b n := by
  rw [detV_det hn (mulL_shp ha.1), detV_det hn ha, detV_det hn hb, det_congr (ent_mulL ha)]
  obtain ⟨_, h2, d, h3⟩ := redP_ok ha (c := n)
  exact det_mul hn _ _ _ _ d h2 h3
theorem det_trL {n : Nat} {a : Mat} (hn : n ≤ 4) (ha : Shp n n a) : detV (trL a n n) n = detV a n := by
  rw [detV_det hn (trL_shp a n n), detV_det hn ha, det_congr (ent_trL a n n), det_tr hn]
end Go.Lin

namespace Go.Proofs.YtjbhcniiioepgaaGreat
open Go.RowKit Go.Rep Go.Lim Go.Lin

theorem rank_ok (X : Nat → Bool) (w : World) (u : Value) (m : List (List Rat)) (hX : HX X w) (hu : MV (mk X w) u m) (hf : formedB m = true) (hT : Tame m (colsL m)) : Calls Tryz.prog 35 #[u] w (fun e w' => Ext w w' ∧ e = .returned (.tuple #[.int .i64 (rankV m (colsL m) : Int), .int .i64 0])) := by
  obtain ⟨hsh, h96, hc96, _, _⟩ := formedB_shp hf
  have hfo := formed_any X w u m hu (by omega)
  rw [hf] at hfo
  have hco := copied_any X w u m m.length (colsL m) hX hu hsh rfl (by omega) (by omega)
  have hrv : Hid ((eN m (colsL m)).2.1.length = rankV m (colsL m)) := hid rfl
  clear hf
  go_enter Tryz.func35, Tryz.ntmps35
  go_wp2_with fail
  refine hfo.mono ?_
  rintro e w1 ⟨rfl, rfl⟩
  go_wp2_with fail
  refine hco.mono ?_
  rintro e w2 ⟨hE2, ao, cap, hs, rfl, hM2⟩
  go_wp2_with fail
  refine (echelon_any X _ w2 ao cap m.length (colsL m) hs m (hX.ext hE2) hM2 hsh rfl (by omega) (by omega) hT).mono ?_
  rintro e w3 ⟨hE3, po, pc, hs', rfl, hmb, hM3, hP3⟩
  have hEf := hM2.ext_from hE2 (Nat.le_refl _) hE3
  rw [hrv.out]
  go_wp2_with fail
  go_ret2
  exact ⟨hEf, rfl⟩

set_option maxRecDepth 100000 in
set_option maxHeartbeats 1600000 in
theorem det_ok (X : Nat → Bool) (w : World) (u : Value) (m : List (List Rat)) (n : Nat) (hX : HX X w) (hu : MV (mk X w) u m) (hf : formedB m = true) (hn : m.length = n) (hc : colsL m = n) (hn6 : n ≤ 6) (hT : Tame m n) : Calls Tryz.prog 37 #[u] w (fun e w' => Ext w w' ∧ ∃ u, e = .returned (.tuple #[u, .int .i64 0]) ∧ QC (mk X w') u (detV m n)) := by
  obtain ⟨hsh, h96, hc96, _, _⟩ := formedB_shp hf
  rw [hn, hc] at hsh
  obtain ⟨W, hW, hEW, b0, hz⟩ := boxes1 w #[.bool false, .slice none 0 0, .slice none 0 0] 31
  have hXW : HX (hidB X w.heap.size 1) W := hX.boxes hz
  have huW := MV.mono _ _ _ _ (le_boxes (nb := 1) hEW) hu
  have hfo := formed_any _ W u m huW (by omega)
  rw [hf] at hfo
  have hcol := columns_any _ W u m huW
  rw [hc] at hcol
  have hco := copied_any _ W u m n n hXW huW hsh hc (by omega) (by omega)
  have hec := fun w' ao cap hs (h : HX (hidB X w.heap.size 1) w') hM => echelon_any (hidB X w.heap.size 1) W.heap.size w' ao cap n n hs m h hM hsh hc (by omega) (by omega) hT
  have hok := eN_ok hsh n
  obtain ⟨B, hB7, hBj, _⟩ := hT
  have hBn := hBj n (Nat.le_refl _)
  have hdv : Hid (detV m n = if (eN m n).2.2 then - pr n (fun i => ent (eN m n).1 i i) else pr n (fun i => ent (eN m n).1 i i)) := hid rfl
  obtain ⟨⟨E, p, od⟩, hS⟩ : ∃ S, eN m n = S := ⟨_, rfl⟩
  rw [hS] at hec hok hBn hdv
  have hEs : Shp n n E := hok.shp
  have hEs' := hid hEs
  have hpq := hid (fun k (hk : k ≤ n) => show hq (pr k (fun i => ent E i i)) ≤ 68719476736 from by
    have h1 := pr_hq (f := fun i => ent E i i) (fun i => hBn i i) k
    have h2 : k * B ≤ 6 * B := Nat.mul_le_mul_right _ (by omega)
    omega)
  have heq := hid (fun i => show hq (ent E i i) ≤ 68719476736 from by have h9 : hq (ent E i i) ≤ B := hBn i i; omega)
  have hnn := hid hn
  have hW2 := hid hW
  obtain ⟨b, hb⟩ : ∃ b, w.heap.size = b := ⟨_, rfl⟩
  have hbw : w.heap.size ≤ b := by omega
  rw [hb] at b0 hz hXW huW hco hec
  obtain ⟨ua, uca, rfl, huca, hua⟩ := hu
  rw [hn] at hfo hcol hco huW ⊢
  clear hf hc hsh hBj hok hB7 hS hua huca h96 hc96 hBn
  go_enter Tryz.func37, Tryz.ntmps37
  go_wp2_with fail
  refine hfo.mono ?_
  rintro e w1 ⟨rfl, rfl⟩
  go_wp2_with fail
  refine hcol.mono ?_
  rintro e w2 ⟨rfl, rfl⟩
  clear hW
  go_wp2_with fail
  refine hco.mono ?_
  rintro e w3 ⟨hE3, ao, cap, hs, rfl, hM3⟩
  rw [hnn.out]
  have hX3 := hXW.ext hE3
  go_wp2_with fail
  refine (hec w3 ao cap hs hX3 hM3).mono ?_
  rintro e w4 ⟨hE4, po, pc, hs', rfl, hmb, hM4, hP4⟩
  have hE04 := hM3.ext_from hE3 (Nat.le_refl _) hE4
  have hX4 := hXW.ext hE04
  have hmc4 := MC.mono _ _ _ _ (mk_sub (X := hidB X b 1) fun k _ hk => un_left hk) hM4.mc
  dsimp only at hmc4
  rw [hEs.1] at hmc4
  obtain ⟨a4, c4, heq4, hcl4, hs4⟩ := hmc4
  simp only [Value.slice.injEq] at heq4
  obtain ⟨rfl, hx9, rfl⟩ := heq4
  clear hx9
  have hhO : Hd ao n := by have := hs4.hd; rw [hEs.1] at this; exact this
  have b04 := b0.ext0 hE04
  clear hfo hcol hco hec hM3 hM4 hP4 hmb
  dsimp only
  go_wp2_with fail
  refine (qfrom (hidB X b 1) w4 1 hX4 (by omega) (by omega)).mono ?_
  rintro e w5 ⟨hE5, u5, rfl, hu5⟩
  obtain ⟨s5, a5, n5, c5, d5, k5, e5, rfl⟩ := hu5.shape
  have bx := Bx.new w5 #[.bool false, .slice none 0 0, .slice none 0 0] 31
  obtain ⟨bo, hbo⟩ : ∃ bo, w5.heap.size = bo := ⟨_, rfl⟩
  rw [hbo] at bx
  have h1r : ((1 : Int) : Rat) = 1 := by decide +kernel
  rw [h1r] at hu5
  clear h1r
  have hX5 := hX4.ext hE5
  have hbnew : ∀ j, j < w5.heap.size → ob (some ⟨bo, 0, none⟩) j = false := fun j hj => ob_other (by omega)
  go_wp2_with ((with_reducible show wpList _ _ _ (⟨_, .store _ _ _, _, _, _, _⟩ :: _) _ _); refine st_storeBox stRat rfl rfl bx rfl rfl (one3 _ _ _ _ _ _ _) ?_; intro w6 r1 r2)
  have hE6 : Ext w5 w6 := ExtX.box ((ExtX.refl w5).alloc _) r2 (by omega)
  have hu6 := old_un (oo := some ⟨bo, 0, none⟩) QC.mono hu5 hE6 hbnew
  have hs6 := (hs4.mono RC.mono (mk_ext hE5)).old (oo := some ⟨bo, 0, none⟩) RC.mono hE6 hbnew
  have b06 := (b04.ext0 hE5).ext0 hE6
  have hsz6 := r1.lt
  have hX6 : HX (un (hidB X b 1) (some ⟨bo, 0, none⟩)) w6 := fun k hk => by
    by_cases hx : hidB X b 1 k = true
    · exact hX5.ext hE6 k hx
    · have : bo = k := by simpa [un, hx, ob] using hk
      omega
  have hE06 := hE04.trans (hE5.trans hE6)
  have hbob : b < bo := by have := b04.lt; have := hE5.size; omega
  have hWbo : w2.heap.size ≤ bo := by have := hE04.size; have := hE5.size; omega
  clear bx
  go_loopw [31] (fun k wr => ∃ (i : Nat) (s : Bool) (a : Option Addr) (n' c' : Nat) (d : Option Addr) (kk e : Nat), k = .int .i64 i ∧ i ≤ n ∧ Bx wr b #[.bool false, .slice none 0 0, .slice none 0 0] 31 ∧ Bx wr bo #[.bool s, .slice a n' c', .slice d kk e] 31 ∧ QC (mk (un (hidB X b 1) (some ⟨bo, 0, none⟩)) wr) (.agg #[.bool s, .slice a n' c', .slice d kk e]) (pr i fun i => ent E i i) ∧ Sl RC 1 (mk (un (hidB X b 1) (some ⟨bo, 0, none⟩)) wr) ao E ∧ HX (un (hidB X b 1) (some ⟨bo, 0, none⟩)) wr ∧ Ext w2 wr) (fun k _ => n - (intOf k).toNat)
  case atStart => exact ⟨0, _, _, _, _, _, _, _, rfl, Nat.zero_le _, b06, r1, hu6, hs6, hX6, hE06⟩
  case round =>
    obtain ⟨i, s, a, n', c', d, kk, e, rfl, hi, b0, b1, hq, hsr, hXr, hEr⟩ := hrel
    by_cases hlt : i < n
    · have hiE : i < E.length := by rw [hEs'.out.1]; exact hlt
      have hrl : Hid (E[i].length = n) := hid (hEs'.out.2 _ (List.getElem_mem _))
      have hie : Hid (∀ h : i < E[i].length, E[i][i] = ent E i i) := hid fun h => by
        unfold ent
        rw [show E.getD i [] = E[i] by simp [List.getD_eq_getElem?_getD, hiE], List.getD_eq_getElem?_getD, List.getElem?_eq_getElem h]; rfl
      obtain ⟨a1, c1, hX1, hc1, hcl1, hq1⟩ := hsr.row i hiE
      have k40 := hc1.out noY wr (ExtX.refl _) rfl
      have hbo1 := hid (hpq.out i hi)
      have hbe := hid (heq.out i)
      have hst : Hid (pr i (fun i => ent E i i) * ent E i i = pr (i + 1) fun i => ent E i i) := hid rfl
      obtain ⟨row, hrow⟩ : ∃ row, E[i] = row := ⟨_, rfl⟩
      rw [hrow] at k40 hq1 hrl hie
      rw [hrl.out] at k40
      have hir : i < row.length := by rw [hrl.out]; exact hlt
      have hda : Hd a1 n := by have := hq1.hd; rw [hrl.out] at this; exact this
      obtain ⟨g2, o2, s2, p2, n2, q2, d2, k2, e2, hg2, hX2, hc2, hq2⟩ := hq1.rat QC.shaped i hir
      rw [hie.out hir] at hq2
      obtain ⟨y, hy⟩ : ∃ y, ent E i i = y := ⟨_, rfl⟩
      obtain ⟨D, hD⟩ : ∃ D, pr i (fun i => ent E i i) = D := ⟨_, rfl⟩
      obtain ⟨D2, hD2⟩ : ∃ D2, pr (i + 1) (fun i => ent E i i) = D2 := ⟨_, rfl⟩
      rw [hy] at hq2 hbe hst
      rw [hD] at hq hbo1 hst
      rw [hD2] at hst
      have hD2' := hid hD2
      have i2 : ∀ W, (Instr.indexAt 33 (.slice a1 n c1) (.int .i64 (i : Int))).run Tryz.prog W = .ok (.pointer (some ⟨g2, o2, none⟩)) W := by rw [← hg2]; exact run_indexAt_adr slRat a1 n c1 .i64 i hda (by omega)
      have hEd : Ext wr wr.drew := (ExtX.refl wr).drew
      have b05 := b0.ext0 hEd
      have b15 := b1.ext0 hEd
      have k00 := b15.cell 0 rfl
      have k01 := b15.cell 1 rfl
      have k02 := b15.cell 2 rfl
      obtain ⟨k20, k21, k22⟩ := hc2.out noY wr.drew hEd rfl
      have hXd : HX (un (hidB X b 1) (some ⟨bo, 0, none⟩)) wr.drew := hXr
      have hy5 : QV (mk (un (hidB X b 1) (some ⟨bo, 0, none⟩)) wr.drew) (.agg #[.bool s2, .slice p2 n2 q2, .slice d2 k2 e2]) y := (mkx QC.mono hq2 hEd).qv hbe.out
      have hq5 : QV (mk (un (hidB X b 1) (some ⟨bo, 0, none⟩)) wr.drew) (.agg #[.bool s, .slice a n' c', .slice d kk e]) D := (mkx QC.mono hq hEd).qv hbo1.out
      clear hrow hy hD hD2 hg2 hc1 hc2
      go_wp2_with (with_reducible refine up_ix1 slRats (by omega) (by assumption) ?_)
      go_region_with ((go_at_call 98; (with_reducible refine (qmul (un (hidB X b 1) (some ⟨bo, 0, none⟩)) wr.drew _ _ _ _ hXd hq5 hy5).mono ?_); rintro ee w7 ⟨t1, u7, rfl, hu7⟩; obtain ⟨s7, a7, n7, c7, d7, k7, e7, rfl⟩ := hu7.shape; rw [hst.out] at hu7; have b17 := b15.ext0 t1; have g0 := b17.cell 0 rfl; have g1 := b17.cell 1 rfl; have g2' := b17.cell 2 rfl; have f0 := b17.frozen 0; have f1 := b17.frozen 1; have f2 := b17.frozen 2))
      all_goals
        obtain ⟨z1, z2⟩ := b17.set3 (.bool s7) (.slice a7 n7 c7) (.slice d7 k7 e7)
        have h8 := QC.mono _ _ _ _ (mk_mono (X := un (hidB X b 1) (some ⟨bo, 0, none⟩)) z2 fun k hk => un_right hk) hu7
        have hs8 := (hsr.mono RC.mono (mk_ext (hEd.trans t1))).mono RC.mono (mk_mono z2 fun k hk => un_right hk)
        have b08 := (b05.ext0 t1).ext z2 (ob_other (by omega))
        have hE8 : Ext w2 _ := ExtX.box (hEr.trans (hEd.trans t1)) z2 hWbo
        have hX8 := (hXd.ext t1).ext z2
        rw [← hD2'.out] at h8
        clear k00 k01 k02 k20 k21 k22 k40 g0 g1 g2' f0 f1 f2 i2
        go_wp2_with fail
        go_roundw
        case rel => exact ⟨i + 1, _, _, _, _, _, _, _, by go_num, by omega, b08, z1, h8, hs8, hX8, hE8⟩
        case measure => simp [intOf]; omega
    · have hin : i = n := by omega
      subst hin
      have k00 := b1.cell 0 rfl
      have k01 := b1.cell 1 rfl
      have k02 := b1.cell 2 rfl
      have hEw : Ext w wr := hEW.trans hEr
      have hbo1 := hpq.out i (Nat.le_refl _)
      cases od
      · have hdv2 : Hid (detV m i = pr i (fun i => ent E i i)) := hid hdv.out
        go_wp2_with ((with_reducible show wpList _ _ _ (⟨_, .store _ _ _, _, _, _, _⟩ :: _) _ _); refine st_storeBox stRat rfl rfl b0 rfl rfl (one3 _ _ _ _ _ _ _) ?_; intro w7 r1 r2)
        have h7 := QC.mono _ _ _ _ le_unbox (QC.mono _ _ _ _ (le_store (lo := b) (nb := 1) r2 (by omega) (by omega)) (QC.mono _ _ _ _ (mk_sub fun k _ hk => un_left hk) hq))
        rw [← hdv2.out] at h7
        exact bodyPost_ret (results_box2 rfl rfl stRat r1 rfl) rfl ⟨ExtX.box hEw r2 (by omega), _, rfl, h7⟩
      · have hdv2 : Hid (detV m i = - pr i (fun i => ent E i i)) := hid hdv.out
        go_wp2_with fail
        refine (qneg (un (hidB X b 1) (some ⟨bo, 0, none⟩)) wr _ _ hXr (hq.qv hbo1)).mono ?_
        rintro e w8 ⟨hE8, u8, rfl, hu8⟩
        obtain ⟨s8, a8, n8, c8, d8, k8, e8, rfl⟩ := hu8.shape
        have b18 := b1.ext0 hE8
        have b08 := b0.ext0 hE8
        clear k00 k01 k02
        go_wp2_with ((with_reducible show wpList _ _ _ (⟨_, .store _ _ _, _, _, _, _⟩ :: _) _ _); first | (refine st_storeBox stRat rfl rfl b18 rfl rfl (one3 _ _ _ _ _ _ _) ?_; intro w9 y1 y2; have b09 := b08.ext y2 (ob_other (by omega)); have j0 := y1.cell 0 rfl; have j1 := y1.cell 1 rfl; have j2 := y1.cell 2 rfl) | (refine st_storeBox stRat rfl rfl b09 rfl rfl (one3 _ _ _ _ _ _ _) ?_; intro w7 r1 r2))
        have h9 := QC.mono _ _ _ _ (mk_mono (X := un (hidB X b 1) (some ⟨bo, 0, none⟩)) y2 fun k hk => un_right hk) hu8
        have h7 := QC.mono _ _ _ _ le_unbox (QC.mono _ _ _ _ (le_store (lo := b) (nb := 1) r2 (by omega) (by omega)) (QC.mono _ _ _ _ (mk_sub fun k _ hk => un_left hk) h9))
        rw [← hdv2.out] at h7
        exact bodyPost_ret (results_box2 rfl rfl stRat r1 rfl) rfl ⟨ExtX.box (ExtX.box (hEw.trans hE8) y2 (by have := hEW.size; omega)) r2 (by omega), _, rfl, h7⟩
end Go.Proofs.YtjbhcniiioepgaaGreat

namespace Go.Lin
open Go.Lim
theorem matL_shp (r c : Nat) (raw : List Int) : Shp r c (matL r c raw) := ⟨by simp [matL], fun x hx => by
  obtain ⟨i, _, rfl⟩ := List.mem_map.1 hx; simp⟩
theorem matL_bm (r c : Nat) (raw : List Int) : Go.Rep.BM 2 (matL r c raw) := fun x hx q hq => by
  obtain ⟨i, _, rfl⟩ := List.mem_map.1 hx
  obtain ⟨j, _, rfl⟩ := List.mem_map.1 hq
  exact numQ_hq _
/-- One row added to another, and both exchanged. -/
def addSwap (m : Mat) (i j : Nat) (f : Rat) : Mat := swapL (m.set i (List.zipWith (· + ·) (m.getD i []) ((m.getD j []).map (· * f)))) i j
theorem addSwap_ok {n c B : Nat} {m : Mat} {i j : Nat} {f : Rat} (hs : Shp n c m) (hi : i < n) (hj : j < n) (hij : i ≠ j) (hB : HB B m) (hf : hq f ≤ B) : Shp n c (addSwap m i j f) ∧ RE n c (ent m) (ent (addSwap m i j f)) (-1) ∧ HB (4 * B) (addSwap m i j f) := by
  have hri := hs.row hi
  have hrj := hs.row hj
  have hl : (List.zipWith (· + ·) (m.getD i []) ((m.getD j []).map (· * f))).length = c := by rw [List.length_zipWith, List.length_map, hri, hrj]; omega
  have hs1 := hs.set i hl
  have he : ∀ r q, ent (m.set i (List.zipWith (· + ·) (m.getD i []) ((m.getD j []).map (· * f)))) r q = if r = i then ent m i q + ent m j q * f else ent m r q := fun r q => by
    rw [ent_set (by rw [hs.1]; exact hi), zip_add _ _ (by rw [List.length_map, hri, hrj]), getD_map_mul]; rfl
  refine ⟨hs1.swap hi hj, ?_, ?_⟩
  · refine (RE.add (f := ent m) (g := ent (m.set i (List.zipWith (· + ·) (m.getD i []) ((m.getD j []).map (· * f))))) i j f hi hj hij (fun q _ => by rw [he]; simp; grind) (fun r _ hr q _ => by rw [he, if_neg hr])).then_ (re_swap hs1 hi hj hij) (by grind)
  · refine HB.swap (fun r q => ?_) hs1 hi hj
    rw [he]
    split
    · have h1 := hB i q; have h2 := hB j q; have h3 := hq_mul (ent m j q) f; have h4 := hq_add (ent m i q) (ent m j q * f); have := hB.pos; omega
    · have := hB r q; omega
/-- A row multiplied. -/
def mulRow (m : Mat) (i : Nat) (f : Rat) : Mat := m.set i ((m.getD i []).map (· * f))
theorem mulRow_ok {n c B : Nat} {m : Mat} {i : Nat} {f : Rat} (hs : Shp n c m) (hi : i < n) (hf0 : f ≠ 0) (hB : HB B m) (hf : hq f ≤ B) : Shp n c (mulRow m i f) ∧ RE n c (ent m) (ent (mulRow m i f)) f ∧ HB (4 * B) (mulRow m i f) := by
  have he : ∀ r q, ent (mulRow m i f) r q = if r = i then ent m i q * f else ent m r q := fun r q => by
    unfold mulRow; rw [ent_set (by rw [hs.1]; exact hi), getD_map_mul]; rfl
  refine ⟨hs.set i (by rw [List.length_map]; exact hs.row hi), .scale i f hi hf0 (fun q _ => by rw [he]; simp; grind) (fun r _ hr q _ => by rw [he, if_neg hr]), fun r q => ?_⟩
  rw [he]
  split
  · have h1 := hB i q; have h3 := hq_mul (ent m i q) f; have := hB.pos; omega
  · have := hB r q; omega
end Go.Lin

namespace Go.Lin
open Go.Lim
theorem sqf {k : Nat} {m : Mat} (h : Shp k k m) (hk : k ≤ 96) : formedB m = true ∧ colsL m = k := by
  by_cases h0 : k = 0
  · have : m = [] := List.eq_nil_of_length_eq_zero (by rw [h.1]; exact h0)
    subst this
    exact ⟨rfl, by rw [h0]; rfl⟩
  · exact ⟨shpf h hk (by omega) hk, shpc h (by omega)⟩
theorem detV_hq {m : Mat} {n : Nat} (hT : Tame m n) (hn : n ≤ 6) : hq (detV m n) ≤ 68719476736 := by
  obtain ⟨B, hB7, hBj, _⟩ := hT
  have hBn := hBj n (Nat.le_refl _)
  have h1 := pr_hq (f := fun i => ent (eN m n).1 i i) (fun i => hBn i i) n
  have h2 : n * B ≤ 6 * B := Nat.mul_le_mul_right _ hn
  unfold detV
  split
  · rw [hq_neg]; omega
  · omega
theorem mulL_bm {a b : Mat} {n c B : Nat} (ha : Go.Rep.BM B a) (hb : Go.Rep.BM B b) (hB : 1 ≤ B) : Go.Rep.BM (1 + n * (2 * B + 1)) (mulL a b n c) := fun r hr q hq => by
  obtain ⟨x, hx, rfl⟩ := List.mem_map.1 hr
  obtain ⟨y, hy, rfl⟩ := List.mem_map.1 hq
  have hyb := hb_bm (trL_hb (n := n) (c := c) (bm_hb hb hB)) y hy
  have := dotN_hq hyb (ha x hx) hB y.length
  rw [(trL_shp b n c).2 y hy] at this
  unfold dotL
  rw [(trL_shp b n c).2 y hy]
  exact this
theorem sq_tame {k B : Nat} {m : Mat} (h : Shp k k m) (hk : k ≤ 4) (hB : Go.Rep.BM B m) (hB1 : 1 ≤ B) (hBB : B ≤ 6000) : Tame m k := by
  refine tame_of h (bm_hb hB hB1) ?_
  have : 35 ^ k ≤ 1500625 := Nat.le_trans (Nat.pow_le_pow_right (by omega) hk) (by decide)
  have h2 : 35 ^ k * B ≤ 1500625 * 6000 := Nat.mul_le_mul this hBB
  omega
end Go.Lin
