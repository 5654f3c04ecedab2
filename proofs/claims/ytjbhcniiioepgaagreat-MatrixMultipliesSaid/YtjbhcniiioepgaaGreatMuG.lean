/- matrix: echelon. Conditions: few rows and columns, numbers of at most 2^36 digits. matrix: reduce. Conditions: few rows and columns, numbers of at most 2^36 digits. copy into a row that a call has made itself. Conditions: none. The determinants and ranks that the program computes. Conditions: at most four rows for determinants. Rows turned as law 06 turns them. Conditions: none. matrix: dot. Conditions: few numbers of at most 2^36 digits. matrix: Apply, Mul. Conditions: few rows and columns, numbers of few digits. Bounds of determinants and products, for law 06. Conditions: none. The inverse that the program computes. Conditions: at most four rows where a determinant is spoken of. matrix: Inverse. Conditions: few rows, numbers of few digits. matrix: Rank, Det. Conditions: few rows and columns, numbers of few digits. matrix: what Apply, Mul, Rank, Det, Inverse do where the sizes do not fit. Conditions: lengths far below any machine's. matrix: Reduce. Conditions: few rows and columns, numbers of at most 2^36 digits. Solve, as lists. Conditions: none. matrix: Null; slices.Contains. Conditions: few rows and columns, numbers of few digits. reference 06: Dot. Conditions: few numbers of at most 2^36 digits. reference 06: Columns, Formed. Conditions: lengths far below any machine's. reference 06: Transpose, Apply, Mul. Conditions: few rows and columns, numbers of few digits. reference 06: Mul. Conditions: few rows and columns, numbers of few digits. The memory of the reference's elimination: rows, pivots, factor, and what each step leaves of them. Conditions: none. reference 06: what its elimination needs of plain lists. Conditions: none. A drawn region whose last operation waits for all others: the loads are taken first under a condition that need not hold behind the last operation. Conditions: none. reference 06: reduce. Conditions: few rows and columns, numbers of few digits. reference 06: Reduce, Rank, Det. Conditions: few rows and columns, numbers of few digits. reference 03: TakeList, with the slice owned; reference 06: beside, Inverse. Conditions: few rows and columns, numbers of few digits. reference 06: Inverse. Conditions: few rows and columns, numbers of few digits. matrix: Solve. Conditions: few rows, numbers of few digits. reference 06: Solve. Conditions: few rows and columns, numbers of few digits. reference 06: Null. Conditions: few rows and columns, numbers of few digits. What Solve and Null return, for law 06. Conditions: at most four rows and columns. matrix and reference 06, side by side: one result each. Conditions: few rows and columns, numbers of few digits. -/
import Derived.Test.YtjbhcniiioepgaaGreatMuF
import Derived.OrdersHeld
import Derived.StillTail
import Derived.Deep.RegionHeld
import Derived.WalkKit
import Derived.Deep.DrawnRows
import Derived.Deep.LoopGhost
namespace Go.Lin
theorem eN_succ (m : Mat) (k : Nat) : eN m (k + 1) = eStep (eN m k) k := rfl
/-- Bounds that an elimination wants. -/
theorem elim_bounds {n c B t i col : Nat} {m : Mat} (_hs : Shp n c m) (h : HB B m) (_ht : t < n) (_hi : i < n) (hB : 5 * B ≤ 68719476736) :
    Go.Rep.BR 68719476736 (m.getD i []) ∧ Go.Rep.BR 68719476736 (m.getD t []) ∧ Go.Lim.hq ((m.getD i []).getD col 0 / (m.getD t []).getD col 0) ≤ 68719476736 ∧ ∀ x ∈ m.getD t [], Go.Lim.hq ((m.getD i []).getD col 0 / (m.getD t []).getD col 0 * x) ≤ 68719476736 := by
  have hrow : ∀ k, Go.Rep.BR B (m.getD k []) := fun k q hq => by
    obtain ⟨j, hj, rfl⟩ := List.getElem_of_mem hq
    have e : (m.getD k []).getD j 0 = (m.getD k [])[j] := by rw [List.getD_eq_getElem?_getD, List.getElem?_eq_getElem hj]; rfl
    rw [← e]; exact h k j
  have h1 := h i col
  have h2 := h t col
  unfold ent at h1 h2
  have h3 := Go.Lim.hq_div ((m.getD i []).getD col 0) ((m.getD t []).getD col 0)
  refine ⟨fun q hq => Nat.le_trans (hrow i q hq) (by omega), fun q hq => Nat.le_trans (hrow t q hq) (by omega), by omega, fun x hx => ?_⟩
  have h4 := hrow t x hx
  have h5 := Go.Lim.hq_mul ((m.getD i []).getD col 0 / (m.getD t []).getD col 0) x
  omega
theorem HB.bm {B : Nat} {m : Mat} (h : HB B m) : Go.Rep.BM B m := fun r hr q hq => by
  obtain ⟨i, hi, rfl⟩ := List.getElem_of_mem hr
  obtain ⟨j, hj, rfl⟩ := List.getElem_of_mem hq
  have := h i j
  simpa [ent, List.getD_eq_getElem?_getD, hi, hj] using this
end Go.Lin
namespace Go.Rep
theorem Sl.fromA {α : Type} {R : Mem → Value → α → Prop} {h : Mem} {ao ao' : Option Addr} {l : List α} (s : Sl R 1 h ao l) (i : Nat) (ha : ∀ k, k < l.length - i → adr ao' k = adr ao (i + k)) (hd : Hd ao' (l.length - i)) : Sl R 1 h ao' (l.drop i) := by
  refine ⟨by rw [List.length_drop]; exact hd, fun k hk => ?_⟩
  rw [List.length_drop] at hk
  obtain ⟨u, h1, h2, h3⟩ := s.2 (i + k) (by omega)
  refine ⟨u, h1, fun j hj => ?_, by simpa using h3⟩
  have hj0 : j = 0 := by omega
  subst hj0
  have := h2 0 hj
  simp only [Nat.mul_one, Nat.add_zero] at this ⊢
  rw [ha k hk]; exact this
theorem map_adr {ao : Option Addr} {n i : Nat} (hd : Hd ao n) (hn : 0 < n) (k : Nat) : adr (Option.map (fun x => x.add i) ao) k = adr ao (i + k) := by
  obtain ⟨b, off, rfl⟩ := hd hn
  simp [Addr.add_lit, adr, Nat.add_assoc]
theorem NatIn.pure (k : IntKind) : ∀ h h' u x, NatIn k h u x → NatIn k h' u x := fun _ _ _ _ h => h
theorem map_hd {ao : Option Addr} {n i m : Nat} (hd : Hd ao n) (hn : 0 < n) : Hd (Option.map (fun x => x.add i) ao) m := fun _ => by
  obtain ⟨b, off, rfl⟩ := hd hn
  exact ⟨b, off + i, by simp [Addr.add_lit]⟩
end Go.Rep
namespace Go.Proofs.YtjbhcniiioepgaaGreat
open Go.RowKit Go.Rep Go.Lim Go.Lin

/-- What echelon leaves: the pivots, and the rows turned. -/
def ChOut (X : Nat → Bool) (base : Nat) (w : World) (ao : Option Addr) (cap : Nat) (hs : List Hdr) (s : St) (e : Ending) (w' : World) : Prop :=
  ExtX (mb ao hs) w w' ∧ ∃ po pc hs', e = .returned (.tuple #[.slice po s.2.1.length pc, .bool s.2.2]) ∧ mb ao hs' = mb ao hs ∧ MO (un X po) base 33 31 w' ao cap hs' s.1 ∧ OL (NatIn .i64) 1 (mz X ao hs) w.heap.size 3 w' po pc s.2.1

set_option maxRecDepth 100000 in
set_option maxHeartbeats 1600000 in
theorem echelon_any (X : Nat → Bool) (base : Nat) (w : World) (ao : Option Addr) (cap n c : Nat) (hs : List Hdr) (m : List (List Rat)) (hX : HX X w) (hM : MO X base 33 31 w ao cap hs m) (hsh : Shp n c m) (hc : colsL m = c) (hn : n ≤ 900) (hcc : c ≤ 900) (hT : TameE m c) :
    Calls Tryz.prog 95 #[.slice ao n cap] w (ChOut X base w ao cap hs (eN m c)) := by
  have hml := hid hsh.1
  have hmc : MC (mk X w) (.slice ao n cap) m := by have := hM.mc; rw [hml.out] at this; exact this
  have hcol := columns_any X w _ m hmc
  rw [hc] at hcol
  have hlen := hid (hM.len.trans hml.out)
  have hcap : n ≤ cap := by have := hM.capLen; rw [hml.out] at this; exact this
  have hhO : Hd ao n := by have := hM.outer.hd; rw [hlen.out] at this; exact this
  have hn0 : Hid (n = 0 → c = 0) := hid fun h => by
    have : m = [] := List.eq_nil_of_length_eq_zero (by rw [hml.out]; exact h)
    rw [← hc, this]; rfl
  have hsh' := hid hsh
  obtain ⟨B, hB7, hBj⟩ := hT
  have hB' := hid hBj
  have hBB' := hid hB7
  have hund : un X none = X := by funext k; simp [un, ob]
  have hMu : MO (un X none) base 33 31 w ao cap hs m := by rw [hund]; exact hM
  have hXz := hM.hz hX
  clear hsh hBj hB7 hc hmc
  go_enter Tryz.func95, Tryz.ntmps95
  go_wp2_with fail
  refine hcol.mono ?_
  rintro e w1 ⟨rfl, rfl⟩
  clear hcol
  go_wp2_with fail
  go_loopw [2, 3, 11] (fun p o k wr => ∃ (j : Nat) (po : Option Addr) (pc pl : Nat) (hs' : List Hdr) (M : Mat) (P : List Nat) (od : Bool), k = .int .i64 j ∧ p = .slice po pl pc ∧ o = .bool od ∧ j ≤ c ∧ Hid (P.length = pl) ∧ Hid (eN m j = (M, P, od)) ∧ Hid (j < c → pl < n) ∧ MO (un X po) base 33 31 wr ao cap hs' M ∧ OL (NatIn .i64) 1 (mz X ao hs) w1.heap.size 3 wr po pc P ∧ Hid (mb ao hs' = mb ao hs) ∧ ExtX (mb ao hs) w1 wr) (fun _ _ k _ => c - (intOf k).toNat)
  case atStart => exact ⟨0, none, 0, 0, hs, m, [], false, rfl, rfl, rfl, Nat.zero_le _, hid rfl, hid rfl, hid (fun h => by have := hn0.out; omega), hMu, OL.nil _ _ _ _ _ _, hid rfl, ExtX.refl _⟩
  case round =>
    obtain ⟨j, po, pc, pl, hs', M, P, od, rfl, rfl, rfl, hj, hpl, hst, hpn, hM, hP, hmb, hE⟩ := hrel
    by_cases hlj : j < c
    · have hpn2 := hpn.out hlj
      have hok := eN_ok hsh'.out j
      rw [hst.out] at hok
      have hshM : Shp n c M := hok.shp
      have hMl := hid hshM.1
      have hhl := hid (hM.len.trans hMl.out)
      have hXr : HX X wr := hX.ext hE
      have hXu : HX (un X po) wr := fun k hk => by
        by_cases hx : X k = true
        · exact hXr k hx
        · exact (hP.block (by simpa [un, hx] using hk)).2
      have hBM : HB B M := by have := hB'.out j (by omega); rw [hst.out] at this; exact this
      have hb5' : 5 * B ≤ 68719476736 := by have := hBB'.out; omega
      have hBM2 := hid (hBM.bm)
      have hEb : Ext wr (wr.alloc (.cells #[.int .i64 (j : Int)] 3)) := (ExtX.refl wr).alloc _
      have hbx : (wr.alloc (.cells #[.int .i64 (j : Int)] 3)).cell? ⟨wr.heap.size, 0, none⟩ = some (.int .i64 (j : Int)) := cell_new 0 rfl
      have hM1 := hM.ext0 hEb
      have hP1 := hP.ext0 (NatIn.elem _) hEb
      have hX1 := hXu.ext hEb
      have hSl : Sl RC 1 (mk (un X po) (wr.alloc (.cells #[.int .i64 (j : Int)] 3))) ao M := by
        obtain ⟨_, _, heq, _, h3⟩ := hM1.mc
        simp only [Value.slice.injEq] at heq
        obtain ⟨rfl, _, rfl⟩ := heq
        exact h3
      obtain ⟨bw, hbw⟩ : ∃ bw, wr.heap.size = bw := ⟨_, rfl⟩
      obtain ⟨w2, hw2⟩ : ∃ w2, wr.alloc (.cells #[.int .i64 (j : Int)] 3) = w2 := ⟨_, rfl⟩
      rw [hw2] at hEb hbx hM1 hP1 hX1 hSl
      rw [hbw] at hbx
      have hpbw : Hid (ob po bw = false) := hid (by rw [← hbw]; exact hP.ob_ge (Nat.le_refl _))
      have hobw : Hid (ob ao bw = false) := hid (by rw [← hbw]; exact hM.outer.ob_ge (Nat.le_refl _))
      have hw2' := hid hw2
      have hbw' := hid hbw
      have hn1 : 0 < n := by omega
      have hmd : Hid (n - pl = (M.drop pl).length) := hid (by rw [List.length_drop, hMl.out])
      have hSd : Sl RC 1 (mk (un X po) w2) (Option.map (fun x => x.add pl) ao) (M.drop pl) := hSl.fromA pl (fun k _ => map_adr hhO hn1 k) (map_hd hhO hn1)
      have hrows : Hid (∀ r ∈ M.drop pl, r.length = c) := hid fun r hr => hshM.2 r (List.mem_of_mem_drop hr)
      have hbmd : Hid (BM 68719476736 (M.drop pl)) := hid fun r hr q hq => Nat.le_trans (hBM2.out r (List.mem_of_mem_drop hr) q hq) (by omega)
      have hix := indexfunc_any (un X po) w2 _ (M.drop pl) (n - pl) (cap - pl) c j bw hX1 hSd hmd.out.symm (by omega) hrows.out hlj hbmd.out hbx
      obtain ⟨F, hF⟩ : ∃ F, (M.drop pl).findIdx? (fun r => decide (r.getD j 0 ≠ 0)) = F := ⟨_, rfl⟩
      rw [hF] at hix
      have hnz : Hid (nzAt M P.length j = F) := hid (by rw [hpl.out]; exact hF)
      clear hF hSd hSl
      go_wp2_with fail
      refine hix.mono ?_
      rintro e w3 ⟨hE3, rfl⟩
      have hM3 := hM1.ext0 hE3
      have hP3 := hP1.ext0 (NatIn.elem _) hE3
      have hb3 := hE3.cell hbx
      have hE03 := hE.trans (ExtX.of (hEb.trans hE3))
      clear hM1 hP1 hix hbx hw2
      match F, hnz with
      | none, hnz =>
        have hst2 : Hid (eN m (j + 1) = (M, P, od)) := hid (by
          rw [eN_succ, hst.out]; unfold eStep; dsimp only
          split
          · rfl
          · rw [hnz.out])
        simp only [idxI]
        go_wp2_with fail
        go_roundw
        case rel => exact ⟨j + 1, po, pc, pl, hs', M, P, od, by go_num, rfl, rfl, by omega, hpl, hst2, hid (fun _ => hpn2), hM3, hP3, hmb, hE03⟩
        case measure => simp [intOf]; omega
      | some q, hnz =>
        obtain ⟨hq1, hq2⟩ := nzAt_some hnz.out
        rw [hpl.out, hMl.out] at hq1
        have hq0 : ¬ (q : Int) < 0 := by omega
        simp only [idxI]
        clear hq2
        have hr1 : pl + q < hs'.length := by rw [hhl.out]; exact hq1
        have hr2 : pl < hs'.length := by rw [hhl.out]; exact hpn2
        obtain ⟨a1, n1, c1, hh1⟩ : ∃ a n c, hs'[pl] = (a, n, c) := ⟨_, _, _, rfl⟩
        obtain ⟨a2, n2, c2, hh2⟩ : ∃ a n c, hs'[pl + q] = (a, n, c) := ⟨_, _, _, rfl⟩
        have hO0 := hM3.outer
        obtain ⟨z1, zf1⟩ := hM3.hdr pl hr2
        obtain ⟨z2, zf2⟩ := hM3.hdr (pl + q) hr1
        rw [hh1] at z1
        rw [hh2] at z2
        dsimp only at z1 z2
        have k1 : w3.cell? (adr ao pl) = some (.slice a1 n1 c1) := z1
        have k2 : w3.cell? (adr ao (pl + q)) = some (.slice a2 n2 c2) := z2
        have f1 : w3.frozen? (adr ao pl) = false := zf1
        have f2 : w3.frozen? (adr ao (pl + q)) = false := zf2
        obtain ⟨hO1, hE4⟩ := hO0.set1 tyRats HdR.elem HdR.one pl hr2 (.slice a2 n2 c2) (a2, n2, c2) rfl
        obtain ⟨u3, k3, f3, hu3⟩ := hO1.cell HdR.one (pl + q) (by simpa using hr1)
        have hu3' : u3 = .slice a2 n2 c2 := by
          have e : (hs'.set pl (a2, n2, c2))[pl + q]'(by simpa using hr1) = (a2, n2, c2) := by
            rw [List.getElem_set]; split
            · rfl
            · exact hh2
          rw [e] at hu3; exact hu3
        rw [hu3'] at k3
        obtain ⟨hO2, hE5⟩ := hO1.set1 tyRats HdR.elem HdR.one (pl + q) (by simpa using hr1) (.slice a1 n1 c1) (a1, n1, c1) rfl
        have hE6 := (hE4.trans hE5).drew
        have hO2 := hO2.ext0 HdR.elem (ExtX.refl (Y := noY) _).drew
        rw [← hh1, ← hh2] at hO2
        have i1 : ∀ W, (Instr.indexAt 23 (.slice ao n cap) (.int .i64 (pl : Int))).run Tryz.prog W = .ok (.pointer (some (adr ao pl))) W := run_ix1 slRats ao n cap .i64 pl hhO (by omega) rfl
        have i2 : ∀ W, (Instr.indexAt 23 (.slice ao n cap) (.int .i64 ((pl : Int) + (q : Int)))).run Tryz.prog W = .ok (.pointer (some (adr ao (pl + q)))) W := run_ix1 slRats ao n cap .i64 (pl + q) hhO (by omega) (by omega)
        have ew : IntKind.i64.wrap ((pl : Int) + (q : Int)) = (pl : Int) + (q : Int) := IntWalk.i64_in _ (by omega)
        have hM5 := hM3.swap hr2 hr1 hE6 hO2
        have hX5 := hX1.ext hE3
        have hP5 : OL (NatIn .i64) 1 (mz X ao hs) w1.heap.size 3 _ po pc P := hP3.frame (NatIn.pure _) hE6 (fun k hk => by
          cases hb : ob ao k
          · rfl
          · have := (hM3.out_sep hb).1; rw [un_right hk] at this; simp at this) hP3.1
        have hb5 := hE6.cellY hb3 hobw.out
        clear hu3 hu3' hO0 hO1 hO2 z1 z2 zf1 zf2 hh1 hh2 hE4 hE5
        go_wp2_with fail
        go_region
        obtain ⟨w5, hw5⟩ : ∃ w5, ((w3.setCell (adr ao pl) (.slice a2 n2 c2)).setCell (adr ao (pl + q)) (.slice a1 n1 c1)).drew = w5 := ⟨_, rfl⟩
        rw [hw5] at hM5 hP5 hb5 hE6 ⊢
        have hE05 := hE03.trans (ExtX.weaken hE6 fun k _ hk => (ob_mb hk).1)
        have hX5 := hX5.ext hE6
        have hXz5 := hXz.ext hE05
        have hbase5 := hE05.size
        clear k1 k2 k3 f1 f2 f3 i1 i2 hw5 hb3
        have hpl5 : pl + 1 ≤ n := hpn2
        go_wp2_with (first | ((with_reducible show wpList _ _ _ (⟨_, .slice _ _ _ _ _, _, _, _, _⟩ :: _) _ _); refine st_fromA slRats n (pl + 1) rfl rfl (by omega) hhO hpl5 hcap ?_; intro ao3 ha3 hd3; replace ha3 := hid ha3) | (at_builtin; refine st_append1n (l := P) slInt rfl (NatIn.elem .i64) hbase5 hXz5 pl hpl.out rfl rfl hP5 (.int .i64 (j : Int)) j rfl rfl (by omega) (by omega) ?_; intro po2 pc2 w6 hP6 hE7 hor; have b6 := hE7.cellY hb5 hpbw.out))
        have hM6 : MO (un X po2) base 33 31 w6 ao cap _ _ := hM5.ext (X' := un X po2) hE7 (fun k _ hk => un_right hk) (fun k hk hz => by
          by_cases hx : X k = true
          · exact un_left hx
          · have h2 : ob po2 k = true := by simpa [un, hx] using hz
            rcases hor with rfl | ⟨g, rfl, hg⟩
            · exact un_right h2
            · have : g = k := by simpa [ob] using h2
              omega)
        have hE06 : ExtX (mb ao hs) w1 w6 := hE05.then_ hE7 fun k hk _ => hP5.ob_lt hk
        have hmb2 : Hid (mb ao ((hs'.set pl hs'[pl + q]).set (pl + q) hs'[pl]) = mb ao hs) := hid (by rw [← hmb.out]; exact (obs_congr (X := X) fun k => by rw [obs_swap hr2 hr1]).1)
        have hh2l : Hid (((hs'.set pl hs'[pl + q]).set (pl + q) hs'[pl]).length = n) := hid (by simp [hhl.out])
        have hsh2 : Shp n c (swapL M pl (pl + q)) := hshM.swap hpn2 hq1
        have hBM2' : HB B (swapL M pl (pl + q)) := hBM.swap hshM hpn2 hq1
        have hst2 : Hid (eN m (j + 1) = (clear (swapL M pl (pl + q)) pl j n, P ++ [j], od != decide (q ≠ 0))) := hid (by
          rw [eN_succ, hst.out]; unfold eStep; dsimp only
          rw [if_neg (by rw [hpl.out, hMl.out]; omega), hnz.out]
          dsimp only
          rw [hpl.out, hMl.out])
        have hbnd : Hid (∀ i, i < n → BR 68719476736 ((swapL M pl (pl + q)).getD i []) ∧ BR 68719476736 ((swapL M pl (pl + q)).getD pl []) ∧ hq (((swapL M pl (pl + q)).getD i []).getD j 0 / ((swapL M pl (pl + q)).getD pl []).getD j 0) ≤ 68719476736 ∧ ∀ x ∈ (swapL M pl (pl + q)).getD pl [], hq (((swapL M pl (pl + q)).getD i []).getD j 0 / ((swapL M pl (pl + q)).getD pl []).getD j 0 * x) ≤ 68719476736) := hid fun i hi => elim_bounds hsh2 hBM2' hpn2 hi hb5'
        have hmbw : Hid (mb ao hs bw = false) := hid (by
          rw [← hmb.out]
          cases hb : mb ao hs' bw
          · rfl
          · have := (hM.mb_block hb).2; omega)
        obtain ⟨hs2, hhs2⟩ : ∃ hs2, (hs'.set pl hs'[pl + q]).set (pl + q) hs'[pl] = hs2 := ⟨_, rfl⟩
        obtain ⟨M2, hM2⟩ : ∃ M2, swapL M pl (pl + q) = M2 := ⟨_, rfl⟩
        rw [hhs2] at hM6 hmb2 hh2l
        rw [hM2] at hM6 hsh2 hBM2' hst2 hbnd
        clear hhs2 hM2
        have hM2l := hid hsh2.1
        have hX6 : HX X w6 := hX.ext hE06
        have hM6' : MO (un X po2) base 33 31 w6 ao cap hs2 (clear M2 pl j 0) := by rw [clear_zero]; exact hM6
        go_loopw [54] (fun k wx => ∃ (s : Nat), k = .int .i64 s ∧ s ≤ n - (pl + 1) ∧ MO (un X po2) base 33 31 wx ao cap hs2 (clear M2 pl j s) ∧ OL (NatIn .i64) 1 (mz X ao hs) w1.heap.size 3 wx po2 pc2 (P ++ [j]) ∧ ExtX (mb ao hs) w1 wx ∧ wx.cell? ⟨bw, 0, none⟩ = some (.int .i64 (j : Int))) (fun k _ => n - (pl + 1) - (intOf k).toNat)
        case atStart => exact ⟨0, rfl, Nat.zero_le _, hM6', hP6, hE06, b6⟩
        case round =>
          obtain ⟨s, rfl, hs9, hM8, hP8, hE8, b8⟩ := hrel
          by_cases hls : s < n - (pl + 1)
          · obtain ⟨t, ht⟩ : ∃ t, pl + 1 + s = t := ⟨_, rfl⟩
            have htn : t < n := by omega
            have hth : t < hs2.length := by rw [hh2l.out]; exact htn
            have hph : pl < hs2.length := by rw [hh2l.out]; exact hpn2
            have htm : t < M2.length := by rw [hM2l.out]; exact htn
            have hpm : pl < M2.length := by rw [hM2l.out]; exact hpn2
            have htc : t < (clear M2 pl j s).length := by rw [clear_len]; exact htm
            have hpc : pl < (clear M2 pl j s).length := by rw [clear_len]; exact hpm
            obtain ⟨a1, n1, c1, hh1⟩ : ∃ a n c, hs2[t] = (a, n, c) := ⟨_, _, _, rfl⟩
            obtain ⟨a2, n2, c2, hh2⟩ : ∃ a n c, hs2[pl] = (a, n, c) := ⟨_, _, _, rfl⟩
            have hg1 : (clear M2 pl j s)[t] = M2[t] := by rw [clear_get htc htm, if_neg (by omega)]
            have hg2 : (clear M2 pl j s)[pl] = M2[pl] := by rw [clear_get hpc hpm, if_neg (by omega)]
            have hn1' : n1 = c := by
              have := hM8.rlen t hth htc
              rw [hh1, hg1, hsh2.2 _ (List.getElem_mem _)] at this; exact this
            have hn2' : n2 = c := by
              have := hM8.rlen pl hph hpc
              rw [hh2, hg2, hsh2.2 _ (List.getElem_mem _)] at this; exact this
            subst hn1'
            subst hn2'
            have hR1 := hM8.row t hth htc
            have hR2 := hM8.row pl hph hpc
            rw [hg1] at hR1
            rw [hg2] at hR2
            simp only [hh1] at hR1
            simp only [hh2] at hR2
            have hz1 := fun k (hk : ob a1 k = true) => hM8.mz_sub hth k (by rw [hh1]; exact hk)
            have hz2 := fun k (hk : ob a2 k = true) => hM8.mz_sub hph k (by rw [hh2]; exact hk)
            have hds : ∀ k, ob a1 k = true → ob a2 k = false := fun k hk => by
              have := hM8.dis t pl hth hph (by omega) k (by rw [hh1]; exact hk)
              rw [hh2] at this; exact this
            have hsp := fun k (hk : ob a1 k = true) => hM8.sep t hth k (by rw [hh1]; exact hk)
            have hBn := hbnd.out t htn
            rw [getD_row htm] at hBn
            have hcs : Hid ((clear M2 pl j s).set t (elimL M2[t] (M2.getD pl []) j) = clear M2 pl j (s + 1)) := hid (by subst ht; exact clear_set htm)
            have hpe : M2.getD pl [] = M2[pl] := getD_row hpm
            rw [← hpe] at hR2
            have hrl1 := hid (hsh2.2 M2[t] (List.getElem_mem _))
            have hrl2 := hid (show (M2.getD pl []).length = n2 by rw [hpe]; exact hsh2.2 _ (List.getElem_mem _))
            obtain ⟨row, hrow⟩ : ∃ row, M2[t] = row := ⟨_, rfl⟩
            obtain ⟨piv, hpiv⟩ : ∃ piv, M2.getD pl [] = piv := ⟨_, rfl⟩
            rw [hrow, hpiv] at hcs
            rw [hrow] at hR1 hrl1
            rw [hpiv] at hR2 hrl2
            rw [hrow, hpiv] at hBn
            have hX8 : HX (un X po2) wr := fun k hk => by
              by_cases hx : X k = true
              · exact hX.ext hE8 k hx
              · exact (hP8.block (by simpa [un, hx] using hk)).2
            have hZ8 := hM8.hz hX8
            have hEd : Ext wr wr.drew := (ExtX.refl wr).drew
            have hel := eliminate_any (mz (un X po2) ao hs2) base wr.drew a1 a2 c1 c2 n2 j row piv hZ8 (hR1.ext0 QC.elem hEd) (hR2.ext0 QC.elem hEd) hz1 hz2 hds hrl1.out hrl2.out (by omega) hlj hBn.1 hBn.2.1 hBn.2.2.1 hBn.2.2.2
            have y1 : wr.cell? (adr ao3 s) = some (.slice a1 n2 c1) := by
              have := (hM8.hdr t hth).1
              rw [hh1, ← ht] at this
              rw [ha3.out s hls]; exact this
            have y2 : wr.drew.cell? (adr ao pl) = some (.slice a2 n2 c2) := by
              have := (hM8.hdr pl hph).1
              rw [hh2] at this
              exact this
            have y3 : wr.drew.cell? ⟨bw, 0, none⟩ = some (.int .i64 (j : Int)) := b8
            have haob : Hid (ob a1 (adr ao pl).block = false) := hid (by
              cases hb : ob a1 (adr ao pl).block
              · rfl
              · have h1 := (hsp _ hb).2
                obtain ⟨b0, o0, rfl⟩ := hhO (by omega)
                simp [ob, adr] at h1)
            have habw : Hid (ob a1 bw = false) := hid (by
              cases hb : ob a1 bw
              · rfl
              · have h5 : mb ao hs2 bw = true := mb_iff.2 (.inr (obs_get hth (show ob hs2[t].1 bw = true by rw [hh1]; exact hb)))
                rw [hmb2.out, hmbw.out] at h5; simp at h5)
            have i1 : ∀ W, (Instr.indexAt 23 (.slice ao n cap) (.int .i64 (pl : Int))).run Tryz.prog W = .ok (.pointer (some (adr ao pl))) W := run_ix1 slRats ao n cap .i64 pl hhO (by omega) rfl
            have hh1' := hid hh1
            replace ht := hid ht
            clear hg1 hg2 hpe hrow hpiv hh1 hh2 hR1 hR2 hBn
            go_wp2_with (with_reducible refine up_ix1 slRats (by omega) (by assumption) ?_)
            go_region_held3 (fun w' => w'.cell? (adr ao pl) = some (.slice a2 n2 c2) ∧ w'.cell? ⟨bw, 0, none⟩ = some (.int .i64 (j : Int)))
              (first | exact ⟨t1.cellY y2 haob.out, t1.cellY y3 habw.out⟩ | go_keep)
              ((go_at_call 136; (with_reducible refine hel.mono ?_); rintro ee w7 ⟨rfl, t1, hO7⟩))
            have b9 := t1.cellY y3 habw.out
            have hEr : ExtX (ob hs2[t].1) wr.drew w7 := by rw [hh1'.out]; exact t1
            have hM9 := (hM8.ext0 hEd).upd hth (l := elimL row piv j) hEr (fun hi' => by
              rw [clear_get htc htm, if_neg (by have := ht.out; omega), elimL_len _ _ _ (by rw [hrl1.out, hrl2.out]), hrl2.out]
              exact (hsh2.2 _ (List.getElem_mem _)).symm) (by rw [hh1'.out]; exact hO7)
            rw [hcs.out] at hM9
            have hP9 := (hP8.ext0 (NatIn.elem _) hEd).frame (NatIn.pure _) t1 (fun k hk => by
              cases hb : ob a1 k
              · rfl
              · have := (hsp k hb).1; rw [un_right hk] at this; simp at this) hP8.1
            have hE9 := (hE8.trans (ExtX.of hEd)).trans (by rw [← hmb2.out]; exact ExtX.row hth hEr)
            clear y1 y2 y3 i1
            go_wp2_with fail
            go_roundw
            case rel => exact ⟨s + 1, by go_num, by omega, hM9, hP9, hE9, b9⟩
            case measure => simp [intOf]; omega
          · have hfin : Hid (clear M2 pl j s = clear M2 pl j n) := hid (clear_full (by rw [hM2l.out]; omega) (by rw [hM2l.out]; omega))
            rw [hfin.out] at hM8
            have hodd : Hid ((!(od == ((q : Int) != 0))) = (od != decide (q ≠ 0))) := hid (by cases od <;> by_cases h : q = 0 <;> simp [h])
            have hpl2 : Hid ((P ++ [j]).length = pl + 1) := hid (by simp [hpl.out])
            by_cases hfull : pl + 1 = n
            · have hne : (((pl + 1 : Nat) : Int) == (n : Int)) = true := beqT (by omega)
              have hne2 : (((pl : Int) + 1) == (n : Int)) = true := beqT (by omega)
              have hstop : Hid (eN m c = (clear M2 pl j n, P ++ [j], od != decide (q ≠ 0))) := hid (by
                rw [eN_stop m (j + 1) (by rw [hst2.out]; dsimp only; rw [hpl2.out, clear_len, hM2l.out]; exact hfull) c (by omega)]; exact hst2.out)
              clear hfull
              go_wp2_with fail
              go_ret2
              rw [hstop.out]
              exact ⟨hE8, po2, pc2, hs2, by rw [hpl2.out, ← hodd.out]; rfl, hmb2.out, hM8, hP8⟩
            · have hne : (((pl + 1 : Nat) : Int) == (n : Int)) = false := beqF (by omega)
              have hne2 : (((pl : Int) + 1) == (n : Int)) = false := beqF (by omega)
              have hpn3 : Hid (j + 1 < c → pl + 1 < n) := hid fun _ => by omega
              clear hfull
              go_wp2_with fail
              go_roundw
              case rel => exact ⟨j + 1, po2, pc2, pl + 1, hs2, _, _, _, by go_num, rfl, by rw [hodd.out], by omega, hpl2, hst2, hpn3, hM8, hP8, hmb2, hE8⟩
              case measure => simp [intOf]; omega
    · have hjc : j = c := by omega
      subst hjc
      go_wp2_with fail
      go_ret2
      rw [hst.out]
      exact ⟨hE, po, pc, hs', by rw [hpl.out]; rfl, hmb.out, hM, hP⟩
end Go.Proofs.YtjbhcniiioepgaaGreat


namespace Go.Lin
/-- Bounds that the second phase wants. -/
theorem elim_bounds2 {n c B t i col : Nat} {m : Mat} (hs : Shp n c m) (h : HB B m) (ht : t < n) (_hi : i < n) (hit : i ≠ t) (hB : 7 * B ≤ 68719476736) :
    Go.Rep.BR 68719476736 ((divL m t col).getD i []) ∧ Go.Rep.BR 68719476736 ((divL m t col).getD t []) ∧ Go.Lim.hq (((divL m t col).getD i []).getD col 0 / ((divL m t col).getD t []).getD col 0) ≤ 68719476736 ∧ ∀ x ∈ (divL m t col).getD t [], Go.Lim.hq (((divL m t col).getD i []).getD col 0 / ((divL m t col).getD t []).getD col 0 * x) ≤ 68719476736 := by
  have h2 := h.divL hs ht col
  have hrow : ∀ k, Go.Rep.BR (2 * B) ((divL m t col).getD k []) := fun k q hq => by
    obtain ⟨j, hj, rfl⟩ := List.getElem_of_mem hq
    have e : ((divL m t col).getD k []).getD j 0 = ((divL m t col).getD k [])[j] := by rw [List.getD_eq_getElem?_getD, List.getElem?_eq_getElem hj]; rfl
    rw [← e]; exact h2 k j
  have h1 : Go.Lim.hq (((divL m t col).getD i []).getD col 0) ≤ B := by
    have := ent_divL hs ht col i col
    rw [if_neg hit] at this
    unfold ent at this
    rw [this]; exact h i col
  have h3 : Go.Lim.hq (((divL m t col).getD t []).getD col 0) ≤ 2 * B := h2 t col
  have h4 := Go.Lim.hq_div (((divL m t col).getD i []).getD col 0) (((divL m t col).getD t []).getD col 0)
  refine ⟨fun q hq => Nat.le_trans (hrow i q hq) (by omega), fun q hq => Nat.le_trans (hrow t q hq) (by omega), by omega, fun x hx => ?_⟩
  have h5 := hrow t x hx
  have h6 := Go.Lim.hq_mul (((divL m t col).getD i []).getD col 0 / ((divL m t col).getD t []).getD col 0) x
  omega
end Go.Lin
namespace Go.Rep
theorem run_slice_to {P : Program} {t e sz by_ : Nat} {z : Value} {ao : Option Addr} (T : SliceT P t e sz by_ z) (len cap : Nat) (k1 : IntKind) (i : Nat) (h1 : i ≤ cap) (w : World) :
    (Instr.sliceAt t (.slice ao len cap) none (some (.int k1 (i : Int))) none).run P w = .ok (.slice ao i cap) w := by
  obtain ⟨ti, hi, hz, hsz, hby⟩ := info_parts T.info
  have h1' : (i : Int) ≤ cap := by omega
  cases ao <;> simp [Instr.sliceAt, Instr.slice, run_underlying T.und, Instr.sliceBounds, run_sliceBound, h1', sizeOf, typeInfo, hi, Addr.add_zero']
end Go.Rep
namespace Go.Proofs.YtjbhcniiioepgaaGreat
open Go.RowKit Go.Rep Go.Lim Go.Lin

/-- What reduce leaves: the pivots, and the rows turned. -/
def RdOut (X : Nat → Bool) (base : Nat) (w : World) (ao : Option Addr) (cap : Nat) (hs : List Hdr) (s : Mat × List Nat) (e : Ending) (w' : World) : Prop :=
  ExtX (mb ao hs) w w' ∧ ∃ po pc hs', e = .returned (.slice po s.2.length pc) ∧ mb ao hs' = mb ao hs ∧ MO (un X po) base 33 31 w' ao cap hs' s.1 ∧ OL (NatIn .i64) 1 (mz X ao hs) w.heap.size 3 w' po pc s.2

set_option maxRecDepth 100000 in
set_option maxHeartbeats 1600000 in
theorem mreduce_any (X : Nat → Bool) (base : Nat) (w : World) (ao : Option Addr) (cap n c : Nat) (hs : List Hdr) (m : List (List Rat)) (hX : HX X w) (hM : MO X base 33 31 w ao cap hs m) (hsh : Shp n c m) (hc : colsL m = c) (hn : n ≤ 900) (hcc : c ≤ 900) (hT : Tame m c) :
    Calls Tryz.prog 85 #[.slice ao n cap] w (RdOut X base w ao cap hs (redP m c)) := by
  have hech := echelon_any X base w ao cap n c hs m hX hM hsh hc hn hcc hT.e
  obtain ⟨B, hB7, _, hBt⟩ := hT
  have hok := eN_ok hsh c
  have hcap : n ≤ cap := by have := hM.capLen; rw [hsh.1] at this; exact this
  have hhO : Hd ao n := by have := hM.outer.hd; rw [hM.len, hsh.1] at this; exact this
  have hred : redP m c = (dN (eN m c).1 (eN m c).2.1 (eN m c).2.1.length, (eN m c).2.1) := rfl
  obtain ⟨⟨E, p, od⟩, hS⟩ : ∃ S, eN m c = S := ⟨_, rfl⟩
  rw [hS] at hech hok hBt hred
  rw [hred]
  dsimp only at hBt ⊢
  obtain ⟨pl, hpl⟩ : ∃ pl, p.length = pl := ⟨_, rfl⟩
  have hEs : Shp n c E := hok.shp
  have hEe : Ech n c (ent E) p := hok.ech
  have hpn : pl ≤ n := by have := hEe.le; omega
  have hDok := hid (dN_ok hEs hEe)
  have hDB : Hid (∀ t, t ≤ p.length → HB B (dN E p t)) := hid hBt
  have hDb := hid hB7
  have hplt : Hid (∀ i (hi : i < p.length), p[i] < c) := hid hEe.lt
  have hpl' := hid hpl
  have hn0 : Hid (HX X w) := hid hX
  clear hsh hBt hB7 hred hS hok hEe hc
  go_enter Tryz.func85, Tryz.ntmps85
  go_wp2_with fail
  refine hech.mono ?_
  rintro e w1 ⟨hE1, po, pc, hs', rfl, hmb, hM1, hP1⟩
  dsimp only at hM1 hP1 ⊢
  rw [hpl]
  have hmb' := hid hmb
  have hlen := hid (hM1.len.trans hEs.1)
  have hdP : Hd po pl := by have := hP1.hd; rw [hpl] at this; exact this
  clear hech hmb hpl hM
  go_wp2_with fail
  go_loopw [19] (fun k wr => ∃ (i : Nat), k = .int .i64 i ∧ i ≤ pl ∧ MO (un X po) base 33 31 wr ao cap hs' (dN E p i) ∧ OL (NatIn .i64) 1 (mz X ao hs) w.heap.size 3 wr po pc p ∧ ExtX (mb ao hs) w wr) (fun k _ => pl - (intOf k).toNat)
  case atStart => exact ⟨0, rfl, Nat.zero_le _, hM1, hP1, hE1⟩
  case round =>
    obtain ⟨i, rfl, hi, hM, hP, hE⟩ := hrel
    by_cases hlt : i < pl
    · have hip : i < p.length := by rw [hpl'.out]; exact hlt
      have hin : i < n := by omega
      have hcl := hplt.out i hip
      have hPs := (hP.sl (NatIn.elem _)).nat i hip
      have hD := hDok.out i (by rw [hpl'.out]; omega)
      have hDBi := hDB.out i (by rw [hpl'.out]; omega)
      have hDbi := hDb.out
      have hgd : Hid (p.getD i 0 = p[i]) := hid (by simp [List.getD_eq_getElem?_getD, hip])
      have hdn : Hid (dN E p (i + 1) = dStep (dN E p i) i p[i]) := hid (by rw [← hgd.out]; rfl)
      obtain ⟨D, hDe⟩ : ∃ D, dN E p i = D := ⟨_, rfl⟩
      obtain ⟨col, hcole⟩ : ∃ col, p[i] = col := ⟨_, rfl⟩
      rw [hDe] at hM hD hDBi hdn
      rw [hcole] at hPs hcl hdn
      have hDs : Shp n c D := hD.shp
      have hDl := hid hDs.1
      have hih : i < hs'.length := by rw [hlen.out]; exact hin
      have hiD : i < D.length := by rw [hDl.out]; exact hin
      obtain ⟨a, na, cr, hhd⟩ : ∃ a na cr, hs'[i] = (a, na, cr) := ⟨_, _, _, rfl⟩
      obtain ⟨row, hrow⟩ : ∃ row, D[i] = row := ⟨_, rfl⟩
      have hrl : Hid (row.length = c) := hid (by rw [← hrow]; exact hDs.2 _ (List.getElem_mem _))
      have hna : na = c := by
        have := hM.rlen i hih hiD
        rw [hhd, hrow, hrl.out] at this; exact this
      subst hna
      have hR := hM.row i hih hiD
      rw [hrow] at hR
      simp only [hhd] at hR
      have hz1 := fun k (hk : ob a k = true) => hM.mz_sub hih k (by rw [hhd]; exact hk)
      have hsp := fun k (hk : ob a k = true) => hM.sep i hih k (by rw [hhd]; exact hk)
      have hda : Hd a na := by have := hR.hd; rw [hrl.out] at this; exact this
      have hun : Hid (un (cut (mz (un X po) ao hs') a) a = mz (un X po) ao hs') := hid (un_cut hz1)
      have haob : Hid (ob a (adr ao i).block = false) := hid (by
        cases hb : ob a (adr ao i).block
        · rfl
        · have h1 := (hsp _ hb).2
          obtain ⟨b0, o0, rfl⟩ := hhO (by omega)
          simp [ob, adr] at h1)
      have y1 : wr.cell? (adr ao i) = some (.slice a na cr) := by
        have := (hM.hdr i hih).1
        rw [hhd] at this; exact this
      have hcr : col < row.length := by rw [hrl.out]; exact hcl
      have hby : Hid (row[col] = ent D i col) := hid (by
        unfold ent; rw [getD_row hiD]; simp [hrow, List.getD_eq_getElem?_getD, hcr])
      obtain ⟨by_, hbye⟩ : ∃ b, ent D i col = b := ⟨_, rfl⟩
      have hbq : Hid (hq by_ ≤ 68719476736) := hid (by rw [← hbye]; exact Nat.le_trans (hDBi i col) (by omega))
      have hBrow : Hid (BR 68719476736 row) := hid fun q hq => by
        obtain ⟨x, hx, rfl⟩ := List.getElem_of_mem hq
        have := hDBi.bm D[i] (List.getElem_mem _) row[x] (by rw [hrow]; exact List.getElem_mem _)
        omega
      have hdiv : Hid (D.set i (row.map (· / by_)) = divL D i col) := hid (by
        unfold divL; rw [getD_row hiD, hrow, hbye])
      rw [hbye] at hby
      have bx := Bx.new wr #[.bool false, .slice none 0 0, .slice none 0 0] 31
      have hhd' := hid hhd
      have hrow' := hid hrow
      clear hhd hrow hDe hcole hbye
      go_wp2_with (first | (with_reducible refine up_ix1 slInt (by omega) (by assumption) ?_) | (with_reducible refine up_ix1 slRats (by omega) (by assumption) ?_) | (with_reducible refine up_ixn slRat (by omega) (by assumption) ?_) | ((with_reducible show wpList _ _ _ (⟨_, .load 31 _, _, _, _, _⟩ :: _) _ _); refine st_loadOL stRat col hR hcr rfl (by simp) QC.agg ?_; intro u5 hu5; rw [hby.out, hun.out] at hu5; obtain ⟨s5, a5, n5, c5, d5, k5, e5, rfl⟩ := hu5.shape) | ((with_reducible show wpList _ _ _ (⟨_, .store _ _ _, _, _, _, _⟩ :: _) _ _); refine st_storeBox stRat rfl rfl bx rfl rfl (one3 _ _ _ _ _ _ _) ?_; intro w5 r1 r2; have y2 := (ExtX.box ((ExtX.refl wr).alloc _) r2 (Nat.le_refl _) : Ext wr w5).cell y1))
      have hE5 : Ext wr w5 := ExtX.box ((ExtX.refl wr).alloc _) r2 (Nat.le_refl _)
      have hM5 := hM.ext0 hE5
      have hP5 := hP.ext0 (NatIn.elem _) hE5
      have hq5 : QV (mk (mz (un X po) ao hs') w5) (.agg #[.bool s5, .slice a5 n5 c5, .slice d5 k5 e5]) by_ := (mkx QC.mono hu5 hE5).qv hbq.out
      have hE15 := hE.trans (ExtX.of (Y := mb ao hs) hE5)
      obtain ⟨bb, hbb⟩ : ∃ bb, wr.heap.size = bb := ⟨_, rfl⟩
      rw [hbb] at r1 ⊢
      have hmbb : Hid (mb ao hs bb = false) := hid (by
        rw [← hmb'.out]
        cases hb : mb ao hs' bb
        · rfl
        · have := (hM.mb_block hb).2; omega)
      obtain ⟨R, hRe⟩ : ∃ R, row.map (· / by_) = R := ⟨_, rfl⟩
      have hRl : Hid (R.length = na) := hid (by rw [← hRe, List.length_map]; exact hrl.out)
      have hRr : Hid (R.length = row.length) := hid (by rw [hRl.out, hrl.out])
      have hRj : Hid (∀ j (h1 : j < row.length) (h2 : j < R.length), R[j] = row[j] / by_) := hid fun j h1 h2 => by subst hRe; simp
      rw [hRe] at hdiv
      have hM5' : MO (un X po) base 33 31 w5 ao cap hs' (D.set i (mix R row 0)) := by
        rw [mix_zero, ← hrow'.out, List.set_getElem_self]; exact hM5
      clear hR hRe bx y1 y2 hM5 hu5 hM hP
      go_loopw [36] (fun k wx => ∃ (j : Nat), k = .int .i64 j ∧ j ≤ na ∧ MO (un X po) base 33 31 wx ao cap hs' (D.set i (mix R row j)) ∧ OL (NatIn .i64) 1 (mz X ao hs) w.heap.size 3 wx po pc p ∧ Bx wx bb #[.bool s5, .slice a5 n5 c5, .slice d5 k5 e5] 31 ∧ QV (mk (mz (un X po) ao hs') wx) (.agg #[.bool s5, .slice a5 n5 c5, .slice d5 k5 e5]) by_ ∧ ExtX (mb ao hs) w wx) (fun k _ => na - (intOf k).toNat)
      case atStart => exact ⟨0, rfl, Nat.zero_le _, hM5', hP5, r1, hq5, hE15⟩
      case round =>
        obtain ⟨j, rfl, hj, hM, hP, hB7, hq7, hE⟩ := hrel
        by_cases hlj : j < na
        · have hjr : j < row.length := by rw [hrl.out]; exact hlj
          have hjR : j < R.length := by rw [hRl.out]; exact hlj
          have hml : Hid ((mix R row j).length = na) := hid (by rw [mix_len hRr.out, hRl.out])
          have hjm : j < (mix R row j).length := by rw [hml.out]; exact hlj
          have hmg : Hid ((mix R row j)[j] = row[j]) := hid (by rw [mix_getElem hRr.out, if_neg (by omega)])
          have hjs : Hid ((mix R row j).set j R[j] = mix R row (j + 1)) := hid (mix_set hRr.out hjR)
          have hRjj := hid (hRj.out j hjr hjR)
          have hbr := hid (hBrow.out row[j] (List.getElem_mem _))
          have hset9 : Hid (i < (D.set i (mix R row j)).length) := hid (by rw [List.length_set]; exact hiD)
          have hR := hM.row i hih hset9.out
          rw [List.getElem_set_self] at hR
          simp only [hhd'.out] at hR
          obtain ⟨x, hx⟩ : ∃ x, row[j] = x := ⟨_, rfl⟩
          obtain ⟨v, hv⟩ : ∃ v, R[j] = v := ⟨_, rfl⟩
          rw [hx] at hmg hbr hRjj
          rw [hv] at hjs hRjj
          have hXr : HX X wr := hn0.out.ext hE
          have hXu : HX (un X po) wr := fun k hk => by
            by_cases hx : X k = true
            · exact hXr k hx
            · exact (hP.block (by simpa [un, hx] using hk)).2
          have hXz := hM.hz hXu
          obtain ⟨g, o, hg⟩ : ∃ g o, adr a (j * 3) = ⟨g, o, none⟩ := ⟨_, _, rfl⟩
          have i1 : ∀ W, (Instr.indexAt 23 (.slice ao n cap) (.int .i64 (i : Int))).run Tryz.prog W = .ok (.pointer (some (adr ao i))) W := run_ix1 slRats ao n cap .i64 i hhO (by omega) rfl
          have bx := Bx.new wr #[.bool false, .slice none 0 0, .slice none 0 0] 31
          have y1 : wr.cell? (adr ao i) = some (.slice a na cr) := by
            have := (hM.hdr i hih).1
            rw [hhd'.out] at this; exact this
          have hsp2 := hid hsp
          replace hg := hid hg
          clear hx hv hsp
          go_wp2_with (first | (with_reducible refine up_ixn slRat (by omega) (by assumption) ?_) | ((with_reducible show wpList _ _ _ (⟨_, .load 31 _, _, _, _, _⟩ :: _) _ _); refine st_loadOL stRat j hR hjm rfl (by simp) QC.agg ?_; intro u6 hu6; rw [hmg.out, hun.out] at hu6; obtain ⟨s6, a6, n6, c6, d6, k6, e6, rfl⟩ := hu6.shape) | ((with_reducible show wpList _ _ _ (⟨_, .store _ _ _, _, _, _, _⟩ :: _) _ _); refine st_storeBox stRat rfl rfl bx rfl rfl (one3 _ _ _ _ _ _ _) ?_; intro w6 r3 r4))
          have i2 : ∀ W, (Instr.indexAt 33 (.slice a na cr) (.int .i64 (j : Int))).run Tryz.prog W = .ok (.pointer (some ⟨g, o, none⟩)) W := by rw [← hg.out]; exact run_indexAt_adr slRat a na cr .i64 j hda (by omega)
          have hE6 : Ext wr w6 := ExtX.box ((ExtX.refl wr).alloc _) r4 (Nat.le_refl _)
          have hEd : Ext w6 w6.drew := (ExtX.refl w6).drew
          have hE6d := hE6.trans hEd
          have hM6 := hM.ext0 hE6d
          have hP6 := hP.ext0 (NatIn.elem _) hE6d
          have hR6 := hR.ext0 QC.elem hE6d
          have hB6 := hB7.ext0 hE6d
          have hx6 : QV (mk (mz (un X po) ao hs') w6.drew) (.agg #[.bool s6, .slice a6 n6 c6, .slice d6 k6 e6]) x := (mkx QC.mono hu6 hE6d).qv hbr.out
          have hb6 : QV (mk (mz (un X po) ao hs') w6.drew) (.agg #[.bool s5, .slice a5 n5 c5, .slice d5 k5 e5]) by_ := mkx QV.mono hq7 hE6d
          have hXd := hXz.ext hE6d
          have r3d := r3.ext0 hEd
          obtain ⟨bw, hbw⟩ : ∃ bw, wr.heap.size = bw := ⟨_, rfl⟩
          rw [hbw] at r3d
          have hab : Hid (ob a bw = false) := hid (by rw [← hbw]; exact hR.ob_ge (Nat.le_refl _))
          have habb : Hid (ob a bb = false) := hid (by
            cases hb : ob a bb
            · rfl
            · have h5 : mb ao hs' bb = true := mb_iff.2 (.inr (obs_get hih (show ob hs'[i].1 bb = true by rw [hhd'.out]; exact hb)))
              rw [hmb'.out, hmbb.out] at h5; simp at h5)
          have hS : Hid (∀ Y W', ExtX Y w6.drew W' → Y (adr ao i).block = false → Y bw = false → Y bb = false → W'.cell? (adr ao i) = some (.slice a na cr) ∧ W'.cell? ⟨bw, 0, none⟩ = some (.bool s6) ∧ W'.cell? ⟨bw, 1, none⟩ = some (.slice a6 n6 c6) ∧ W'.cell? ⟨bw, 2, none⟩ = some (.slice d6 k6 e6) ∧ W'.cell? ⟨bb, 0, none⟩ = some (.bool s5) ∧ W'.cell? ⟨bb, 1, none⟩ = some (.slice a5 n5 c5) ∧ W'.cell? ⟨bb, 2, none⟩ = some (.slice d5 k5 e5)) := hid fun Y W' h hy1 hy2 hy3 => by
            have z2 := r3d.ext h hy2
            have z3 := hB6.ext h hy3
            exact ⟨h.cellY (hE6d.cell y1) hy1, z2.cell 0 rfl, z2.cell 1 rfl, z2.cell 2 rfl, z3.cell 0 rfl, z3.cell 1 rfl, z3.cell 2 rfl⟩
          obtain ⟨k00, k10, k11, k12, k20, k21, k22⟩ := hS.out noY w6.drew (ExtX.refl _) rfl rfl rfl
          have qd := qdiv (mz (un X po) ao hs') w6.drew _ _ _ _ hXd hx6 hb6
          rw [← hRjj.out] at qd
          have qd2 : Calls Tryz.prog 135 #[.agg #[.bool s6, .slice a6 n6 c6, .slice d6 k6 e6], .agg #[.bool s5, .slice a5 n5 c5, .slice d5 k5 e5]] w6.drew (fun e w' => Ext w6.drew w' ∧ ∃ u ec, e = .returned (.tuple #[u, .int .i64 ec]) ∧ QC (mk (mz (un X po) ao hs') w') u v) := qd.mono fun e w' ⟨q1, u, q2, q3⟩ => ⟨q1, u, _, q2, q3⟩
          clear qd r3 bx y1
          rw [hbw]
          go_wp2_with fail
          go_region_held3 (fun w' => w'.cell? (adr ao i) = some (.slice a na cr) ∧ w'.cell? ⟨bw, 0, none⟩ = some (.bool s6) ∧ w'.cell? ⟨bw, 1, none⟩ = some (.slice a6 n6 c6) ∧ w'.cell? ⟨bw, 2, none⟩ = some (.slice d6 k6 e6) ∧ w'.cell? ⟨bb, 0, none⟩ = some (.bool s5) ∧ w'.cell? ⟨bb, 1, none⟩ = some (.slice a5 n5 c5) ∧ w'.cell? ⟨bb, 2, none⟩ = some (.slice d5 k5 e5))
            (first | exact hS.out noY _ t1 rfl rfl rfl | exact hS.out (ob a) _ ((ExtX.of t1).trans hset.2) haob.out hab.out habb.out | go_keep)
            ((go_at_call 135; (with_reducible refine qd2.mono ?_); rintro ee w7 ⟨t1, u7, ec7, rfl, hu7⟩; obtain ⟨s7, a7, n7, c7, d7, k7, e7, rfl⟩ := hu7.shape; have hO7 := hR6.ext0 QC.elem t1; obtain ⟨_, v0, v1, v2, _, ⟨g0, f0⟩, ⟨g1, f1⟩, ⟨g2, f2⟩, _⟩ := hO7.cell3 j hjm hg.out; have hset := hO7.set3 tyRat QC.elem j hjm hg.out (v0 := .bool s7) (v1 := .slice a7 n7 c7) (v2 := .slice d7 k7 e7) (x := v) (by rw [hun.out]; exact hu7)))
          obtain ⟨q1, q2⟩ := hset
          rw [hjs.out] at q1
          obtain ⟨w8, hw8⟩ : ∃ w8, ((w7.setCell ⟨g, o, none⟩ (.bool s7)).setCell ⟨g, o + 1, none⟩ (.slice a7 n7 c7)).setCell ⟨g, o + 2, none⟩ (.slice d7 k7 e7) = w8 := ⟨_, rfl⟩
          rw [hw8] at q1 q2 ⊢
          have q2' : ExtX (ob hs'[i].1) w7 w8 := by rw [hhd'.out]; exact q2
          have hM7 := (hM6.ext0 t1).upd hih (l := mix R row (j + 1)) q2' (fun hi' => by rw [List.getElem_set_self, mix_len hRr.out, mix_len hRr.out]) (by rw [hhd'.out]; exact q1)
          rw [List.set_set] at hM7
          have hP8 := (hP6.ext0 (NatIn.elem _) t1).frame (NatIn.pure _) q2 (fun k hk => by
            cases hb : ob a k
            · rfl
            · have := (hsp2.out k hb).1; rw [un_right hk] at this; simp at this) hP.1
          have hB8 := (hB6.ext0 t1).ext q2 habb.out
          have hq8 := QV.mono _ _ _ _ (mk_mono q2 hz1) (mkx QV.mono hb6 t1)
          have hE8 := (hE.trans (ExtX.of (hE6d.trans t1))).trans (show ExtX (mb ao hs) w7 w8 by rw [← hmb'.out]; exact ExtX.row hih q2')
          clear k00 k10 k11 k12 k20 k21 k22 g0 g1 g2 f0 f1 f2 i1 i2 hw8
          go_wp2_with fail
          go_roundw
          case rel => exact ⟨j + 1, by go_num, by omega, hM7, hP8, hB8, hq8, hE8⟩
          case measure => simp [intOf]; omega
        · have hjn : j = na := by omega
          subst hjn
          rw [mix_full (by rw [hRl.out]; exact Nat.le_refl _) (by rw [hrl.out]; exact Nat.le_refl _), hdiv.out] at hM
          obtain ⟨D2, hD2⟩ : ∃ D2, divL D i col = D2 := ⟨_, rfl⟩
          have hsh2 : Shp n j D2 := by rw [← hD2]; exact hDs.divL hin col
          have hbnd : Hid (∀ t, t < i → BR 68719476736 (D2.getD t []) ∧ BR 68719476736 (D2.getD i []) ∧ hq ((D2.getD t []).getD col 0 / (D2.getD i []).getD col 0) ≤ 68719476736 ∧ ∀ x ∈ D2.getD i [], hq ((D2.getD t []).getD col 0 / (D2.getD i []).getD col 0 * x) ≤ 68719476736) := hid fun t ht => by
            rw [← hD2]; exact elim_bounds2 hDs hDBi hin (by omega) (by omega) hDbi
          have hdn2 : Hid (above D2 i col i = dN E p (i + 1)) := hid (by rw [hdn.out]; unfold dStep; rw [hD2])
          rw [hD2] at hM
          have hD2l := hid hsh2.1
          have hM' : MO (un X po) base 33 31 wr ao cap hs' (above D2 i col 0) := by rw [above_zero]; exact hM
          have hicap : i ≤ cap := by omega
          have f1 : ∀ W, (Instr.sliceAt 23 (.slice ao n cap) none (some (.int .i64 (i : Int))) none).run Tryz.prog W = .ok (.slice ao i cap) W := run_slice_to slRats n cap .i64 i hicap
          have hhOi : Hd ao i := fun h0 => hhO (by omega)
          clear hM hD2 hB7 hq7
          go_wp2_with fail
          go_loopw [58] (fun k wx => ∃ (s : Nat), k = .int .i64 s ∧ s ≤ i ∧ MO (un X po) base 33 31 wx ao cap hs' (above D2 i col s) ∧ OL (NatIn .i64) 1 (mz X ao hs) w.heap.size 3 wx po pc p ∧ ExtX (mb ao hs) w wx) (fun k _ => i - (intOf k).toNat)
          case atStart => exact ⟨0, rfl, Nat.zero_le _, hM', hP, hE⟩
          case round =>
            obtain ⟨s, rfl, hs9, hM8, hP8, hE8⟩ := hrel
            by_cases hls : s < i
            · have htn : s < n := by omega
              have hth : s < hs'.length := by rw [hlen.out]; exact htn
              have htm : s < D2.length := by rw [hD2l.out]; exact htn
              have hpm : i < D2.length := by rw [hD2l.out]; exact hin
              have htc : s < (above D2 i col s).length := by rw [above_len]; exact htm
              have hpc : i < (above D2 i col s).length := by rw [above_len]; exact hpm
              obtain ⟨a1, n1, c1, hh1⟩ : ∃ a n c, hs'[s] = (a, n, c) := ⟨_, _, _, rfl⟩
              have hg1 : (above D2 i col s)[s] = D2[s] := by rw [above_get htc htm, if_neg (by omega)]
              have hg2 : (above D2 i col s)[i] = D2[i] := by rw [above_get hpc hpm, if_neg (by omega)]
              have hn1' : n1 = j := by
                have := hM8.rlen s hth htc
                rw [hh1, hg1, hsh2.2 _ (List.getElem_mem _)] at this; exact this
              subst hn1'
              have hR1 := hM8.row s hth htc
              have hR2 := hM8.row i hih hpc
              rw [hg1] at hR1
              rw [hg2] at hR2
              simp only [hh1] at hR1
              simp only [hhd'.out] at hR2
              have hzz1 := fun k (hk : ob a1 k = true) => hM8.mz_sub hth k (by rw [hh1]; exact hk)
              have hzz2 := fun k (hk : ob a k = true) => hM8.mz_sub hih k (by rw [hhd'.out]; exact hk)
              have hds : ∀ k, ob a1 k = true → ob a k = false := fun k hk => by
                have := hM8.dis s i hth hih (by omega) k (by rw [hh1]; exact hk)
                rw [hhd'.out] at this; exact this
              have hsp1 := fun k (hk : ob a1 k = true) => hM8.sep s hth k (by rw [hh1]; exact hk)
              have hBn := hbnd.out s hls
              rw [getD_row htm] at hBn
              have hcs : Hid ((above D2 i col s).set s (elimL D2[s] (D2.getD i []) col) = above D2 i col (s + 1)) := hid (above_set htm hls)
              have hpe : D2.getD i [] = D2[i] := getD_row hpm
              rw [← hpe] at hR2
              have hrl1 := hid (hsh2.2 D2[s] (List.getElem_mem _))
              have hrl2 := hid (show (D2.getD i []).length = n1 by rw [hpe]; exact hsh2.2 _ (List.getElem_mem _))
              obtain ⟨rw1, hrow1⟩ : ∃ rw1, D2[s] = rw1 := ⟨_, rfl⟩
              obtain ⟨piv, hpiv⟩ : ∃ piv, D2.getD i [] = piv := ⟨_, rfl⟩
              rw [hrow1, hpiv] at hcs
              rw [hrow1] at hR1 hrl1
              rw [hpiv] at hR2 hrl2
              rw [hrow1, hpiv] at hBn
              have hX8 : HX (un X po) wr := fun k hk => by
                by_cases hx : X k = true
                · exact hn0.out.ext hE8 k hx
                · exact (hP8.block (by simpa [un, hx] using hk)).2
              have hZ8 := hM8.hz hX8
              have hel := eliminate_any (mz (un X po) ao hs') base wr a1 a c1 cr n1 col rw1 piv hZ8 hR1 hR2 hzz1 hzz2 hds hrl1.out hrl2.out (by omega) hcl hBn.1 hBn.2.1 hBn.2.2.1 hBn.2.2.2
              have y1 : wr.cell? (adr ao s) = some (.slice a1 n1 c1) := by
                have := (hM8.hdr s hth).1
                rw [hh1] at this; exact this
              have y2 : wr.cell? (adr ao i) = some (.slice a n1 cr) := by
                have := (hM8.hdr i hih).1
                rw [hhd'.out] at this; exact this
              have hh1' := hid hh1
              clear hg1 hg2 hpe hrow1 hpiv hh1 hR1 hR2 hBn f1
              go_wp2_with (with_reducible refine up_ix1 slRats (by omega) (by assumption) ?_)
              refine hel.mono ?_
              rintro ee w7 ⟨rfl, t1, hO7⟩
              have hEr : ExtX (ob hs'[s].1) wr w7 := by rw [hh1'.out]; exact t1
              have hM9 := hM8.upd hth (l := elimL rw1 piv col) hEr (fun hi' => by
                rw [above_get htc htm, if_neg (by omega), elimL_len _ _ _ (by rw [hrl1.out, hrl2.out]), hrl2.out]
                exact (hsh2.2 _ (List.getElem_mem _)).symm) (by rw [hh1'.out]; exact hO7)
              rw [hcs.out] at hM9
              have hP9 := hP8.frame (NatIn.pure _) t1 (fun k hk => by
                cases hb : ob a1 k
                · rfl
                · have := (hsp1 k hb).1; rw [un_right hk] at this; simp at this) hP8.1
              have hE9 := hE8.trans (show ExtX (mb ao hs) wr w7 by rw [← hmb'.out]; exact ExtX.row hth hEr)
              clear y1 y2
              go_wp2_with fail
              go_roundw
              case rel => exact ⟨s + 1, by go_num, by omega, hM9, hP9, hE9⟩
              case measure => simp [intOf]; omega
            · have hsi : s = i := by omega
              subst hsi
              rw [hdn2.out] at hM8
              go_wp2_with fail
              go_roundw
              case rel => exact ⟨s + 1, by go_num, by omega, hM8, hP8, hE8⟩
              case measure => simp [intOf]; omega
    · have hil : i = pl := by omega
      subst hil
      rw [← hpl'.out] at hM
      go_wp2_with fail
      go_ret
      exact ⟨hE, po, pc, hs', by rw [hpl'.out]; rfl, hmb'.out, hM, hP⟩
end Go.Proofs.YtjbhcniiioepgaaGreat


namespace Go.Rep
open Go.RowKit Go.Lim
section
variable {P : Program} {ops : Array Oper} {Q : Exit → Act → World → Prop} {rest : List Oper} {a : Act} {w : World}
variable {α : Type} {R : Mem → Value → α → Prop} {sz : Nat} {X : Nat → Bool} {base : Nat} {e : TypeId} {ao : Option Addr} {cap : Nat} {l : List α}
variable {d : Option Tmp} {ty : TypeId} {ps : String} {af : Array Edge}
end
end Go.Rep


namespace Go.Lin
open Go.Lim
end Go.Lin


namespace Go.Lin
open Go.Lim
end Go.Lin


namespace Go.Proofs.YtjbhcniiioepgaaGreat
open Go.RowKit Go.Rep Go.Lim Go.Lin

set_option maxRecDepth 100000 in
set_option maxHeartbeats 1600000 in
theorem dot_any (X : Nat → Bool) (w : World) (u v : Value) (l m : List Rat) (hX : HX X w) (hu : RV (mk X w) u l) (hv : RV (mk X w) v m) (hn : l.length ≤ 1000000) (hml : m.length = l.length) (hb1 : ∀ k, k ≤ l.length → hq (dotN l m k) ≤ 68719476736) (hb2 : ∀ k, k < l.length → hq (l.getD k 0 * m.getD k 0) ≤ 68719476736) :
    Calls Tryz.prog 107 #[u, v] w (ROut X w QC (dotL l m)) := by
  obtain ⟨ao, ca, rfl, hca, hsa⟩ := hu
  obtain ⟨bo, cb, rfl, hcb, hsb⟩ := hv
  have hha := hsa.hd
  have hhb := hsb.hd
  obtain ⟨W, hW, hE, b0, b1, hz⟩ := boxes2 w #[.bool false, .slice none 0 0, .slice none 0 0] #[.bool false, .slice none 0 0, .slice none 0 0] 31 31
  have hXW : HX (hidB X w.heap.size 2) W := hX.boxes hz
  have h0 : QC (mk (hidB X w.heap.size 2) W) (.agg #[.bool false, .slice none 0 0, .slice none 0 0]) (dotN l m 0) := QC.zero _
  obtain ⟨n, hln⟩ : ∃ n, l.length = n := ⟨_, rfl⟩
  rw [hln] at hn hml hb1 hb2 hca hha ⊢
  rw [hml] at hcb hhb ⊢
  have hln' := hid hln
  have hml' := hid hml
  have hb1' := hid hb1
  have hb2' := hid hb2
  have hdot : Hid (dotN l m n = dotL l m) := hid (by unfold dotL; rw [hln])
  clear hln hml hb1 hb2
  go_enter Tryz.func107, Tryz.ntmps107
  go_wp2_with fail
  obtain ⟨b, hb⟩ : ∃ b, w.heap.size = b := ⟨_, rfl⟩
  have hle : Hid (∀ wr, Ext w wr → Le (mk X w) (mk (hidB X b 2) wr)) := hid fun wr h => by rw [← hb]; exact le_boxes h
  have hbw : w.heap.size ≤ b := by omega
  rw [hb] at b0 b1 hXW h0 ⊢
  clear hW
  go_loopw [10] (fun k wr => ∃ (i : Nat) (s : Bool) (a : Option Addr) (n' c' : Nat) (d : Option Addr) (kk e : Nat), k = .int .i64 i ∧ i ≤ n ∧ Bx wr b #[.bool false, .slice none 0 0, .slice none 0 0] 31 ∧ Bx wr (b + 1) #[.bool s, .slice a n' c', .slice d kk e] 31 ∧ QC (mk (hidB X b 2) wr) (.agg #[.bool s, .slice a n' c', .slice d kk e]) (dotN l m i) ∧ HX (hidB X b 2) wr ∧ Ext w wr) (fun k _ => n - (intOf k).toNat)
  case atStart => exact ⟨0, _, _, _, _, _, _, _, rfl, Nat.zero_le _, b0, b1, h0, hXW, hE⟩
  case round =>
    obtain ⟨i, s, a, n', c', d, kk, e, rfl, hi, b0, b1, hq, hXr, hEr⟩ := hrel
    by_cases hlt : i < n
    · have hil : i < l.length := by rw [hln'.out]; exact hlt
      have him : i < m.length := by rw [hml'.out]; exact hlt
      have hsr := hsa.mono QV.mono (hle.out wr hEr)
      have hsr2 := hsb.mono QV.mono (hle.out wr hEr)
      obtain ⟨g2, o2, s2, p2, n2, q2, d2, k2, e2, hg2, hX2, hc2, hq2⟩ := hsr2.rat QV.shaped i him
      have gl : Hid (l.getD i 0 = l[i]) := hid (by simp [List.getD_eq_getElem?_getD, hil])
      have gm : Hid (m.getD i 0 = m[i]) := hid (by simp [List.getD_eq_getElem?_getD, him])
      have hst : Hid (dotN l m i + l[i] * m[i] = dotN l m (i + 1)) := hid (by rw [← gl.out, ← gm.out]; rfl)
      have hbo := hid (hb1'.out i hi)
      have hbp := hid (hb2'.out i hlt)
      rw [gl.out, gm.out] at hbp
      obtain ⟨x, hx⟩ : ∃ x, l[i] = x := ⟨_, rfl⟩
      obtain ⟨y, hy⟩ : ∃ y, m[i] = y := ⟨_, rfl⟩
      rw [hx, hy] at hst hbp
      rw [hy] at hq2
      have hx' := hid hx
      have i2 : ∀ W, (Instr.indexAt 33 (.slice bo n cb) (.int .i64 (i : Int))).run Tryz.prog W = .ok (.pointer (some ⟨g2, o2, none⟩)) W := by rw [← hg2]; exact run_indexAt_adr slRat bo n cb .i64 i hhb (by omega)
      have bx := Bx.new wr #[.bool false, .slice none 0 0, .slice none 0 0] 31
      obtain ⟨D, hD⟩ : ∃ D, dotN l m i = D := ⟨_, rfl⟩
      obtain ⟨D2, hD2⟩ : ∃ D2, dotN l m (i + 1) = D2 := ⟨_, rfl⟩
      rw [hD] at hq hst hbo
      rw [hD2] at hst
      have hD2' := hid hD2
      clear hx hy hg2 hD hD2
      go_wp2_with (first | (with_reducible refine up_ixn slRat (by omega) (by assumption) ?_) | ((with_reducible show wpList _ _ _ (⟨_, .load 31 _, _, _, _, _⟩ :: _) _ _); refine st_loadElem stRat i hsr hil rfl (by simp) QV.agg ?_; intro u5 hu5; rw [hx'.out] at hu5; obtain ⟨s5, a5, n5, c5, d5, k5, e5, rfl⟩ := hu5.shape) | ((with_reducible show wpList _ _ _ (⟨_, .store _ _ _, _, _, _, _⟩ :: _) _ _); refine st_storeBox stRat rfl rfl bx rfl rfl (one3 _ _ _ _ _ _ _) ?_; intro w5 r1 r2))
      have hE5 : Ext wr w5 := ExtX.box ((ExtX.refl wr).alloc _) r2 (Nat.le_refl _)
      have hEd : Ext w5 w5.drew := (ExtX.refl w5).drew
      have hE5d := hE5.trans hEd
      have b05 := b0.ext0 hE5d
      have b15 := b1.ext0 hE5d
      have r5 := r1.ext0 hEd
      obtain ⟨bw, hbw⟩ : ∃ bw, wr.heap.size = bw := ⟨_, rfl⟩
      rw [hbw] at r5
      have k00 := b15.cell 0 rfl
      have k01 := b15.cell 1 rfl
      have k02 := b15.cell 2 rfl
      have k10 := r5.cell 0 rfl
      have k11 := r5.cell 1 rfl
      have k12 := r5.cell 2 rfl
      obtain ⟨k20, k21, k22⟩ := hc2.out noY w5.drew hE5d rfl
      have hXd := hXr.ext hE5d
      have hx5 : QV (mk (hidB X b 2) w5.drew) (.agg #[.bool s5, .slice a5 n5 c5, .slice d5 k5 e5]) x := mkx QV.mono hu5 hE5d
      have hy5 : QV (mk (hidB X b 2) w5.drew) (.agg #[.bool s2, .slice p2 n2 q2, .slice d2 k2 e2]) y := mkx QV.mono hq2 hE5d
      have hq5 : QV (mk (hidB X b 2) w5.drew) (.agg #[.bool s, .slice a n' c', .slice d kk e]) D := (mkx QC.mono hq hE5d).qv hbo.out
      clear bx r1 hc2
      rw [hbw]
      go_wp2_with fail
      go_region_with (first | (go_at_call 98; (with_reducible refine (qmul (hidB X b 2) w5.drew _ _ _ _ hXd hx5 hy5).mono ?_); rintro ee w6 ⟨t1, u6, rfl, hu6⟩; obtain ⟨s6, a6, n6, c6, d6, k6, e6, rfl⟩ := hu6.shape; have hX6 := hXd.ext t1; have hq6 := mkx QV.mono hq5 t1; have hm6 := hu6.qv hbp.out; have b16 := b15.ext0 t1; have m0 := b16.cell 0 rfl; have m1 := b16.cell 1 rfl; have m2 := b16.cell 2 rfl) | (go_at_call 110; (with_reducible refine (qadd (hidB X b 2) w6 _ _ _ _ hX6 hq6 hm6).mono ?_); rintro ee w7 ⟨t7, u7, rfl, hu7⟩; obtain ⟨s7, a7, n7, c7, d7, k7, e7, rfl⟩ := hu7.shape; rw [hst.out] at hu7; have b17 := b16.ext0 t7; have g0 := b17.cell 0 rfl; have g1 := b17.cell 1 rfl; have g2' := b17.cell 2 rfl; have f0 := b17.frozen 0; have f1 := b17.frozen 1; have f2 := b17.frozen 2))
      all_goals
        obtain ⟨z1, z2⟩ := b17.set3 (.bool s7) (.slice a7 n7 c7) (.slice d7 k7 e7)
        have h8 := QC.mono _ _ _ _ (le_store (lo := b) (nb := 2) z2 (by omega) (by omega)) hu7
        have b08 := ((b05.ext0 t1).ext0 t7).ext z2 (ob_other (by omega))
        have hE8 : Ext w _ := ExtX.box (hEr.trans (hE5d.trans (t1.trans t7))) z2 (by omega)
        have hX8 := (hX6.ext t7).ext z2
        rw [← hD2'.out] at h8
        clear k00 k01 k02 k10 k11 k12 k20 k21 k22 m0 m1 m2 g0 g1 g2' f0 f1 f2 i2
        go_wp2_with fail
        go_roundw
        case rel => exact ⟨i + 1, _, _, _, _, _, _, _, by go_num, by omega, b08, z1, h8, hX8, hE8⟩
        case measure => simp [intOf]; omega
    · have hin : i = n := by omega
      subst hin
      rw [hdot.out] at hq
      have k00 := b1.cell 0 rfl
      have k01 := b1.cell 1 rfl
      have k02 := b1.cell 2 rfl
      go_wp2_with ((with_reducible show wpList _ _ _ (⟨_, .store _ _ _, _, _, _, _⟩ :: _) _ _); refine st_storeBox stRat rfl rfl b0 rfl rfl (one3 _ _ _ _ _ _ _) ?_; intro w7 r1 r2)
      have h7 := QC.mono _ _ _ _ le_unbox (QC.mono _ _ _ _ (le_store r2 (by omega) (by omega)) hq)
      exact bodyPost_ret (results_box rfl rfl stRat r1 rfl) rfl ⟨ExtX.box hEr r2 (by omega), _, rfl, h7⟩
end Go.Proofs.YtjbhcniiioepgaaGreat


namespace Go.Lin
open Go.Lim
theorem shpc {n c : Nat} {m : Mat} (h : Shp n c m) (hn : 1 ≤ n) : colsL m = c := by
  rw [colsL_pos (by rw [h.1]; exact hn)]; exact h.2 _ (List.getElem_mem _)
theorem shpf {n c : Nat} {m : Mat} (h : Shp n c m) (hn : n ≤ 96) (hc : 1 ≤ c) (hc2 : c ≤ 96) : formedB m = true := by
  refine formedB_true.2 ⟨by rw [h.1]; exact hn, fun i hi => ?_⟩
  have h1 := h.2 _ (List.getElem_mem hi)
  refine ⟨by omega, by omega, ?_⟩
  rw [h1, shpc h (by have := h.1; omega)]
theorem bm_hb {B : Nat} {m : Mat} (h : Go.Rep.BM B m) (hB : 1 ≤ B) : HB B m := fun i j => by
  unfold ent
  by_cases hi : i < m.length
  · have e : m.getD i [] = m[i] := by simp [List.getD_eq_getElem?_getD, hi]
    rw [e]
    by_cases hj : j < (m[i]).length
    · have := h m[i] (List.getElem_mem _) (m[i])[j] (List.getElem_mem _)
      simpa [List.getD_eq_getElem?_getD, hj] using this
    · rw [List.getD_eq_getElem?_getD, List.getElem?_eq_none (by omega)]
      show hq 0 ≤ B
      rw [hq_zero]; exact hB
  · rw [List.getD_eq_getElem?_getD (l := m), List.getElem?_eq_none (by omega)]
    show hq 0 ≤ B
    rw [hq_zero]; exact hB
theorem hb_bm {B : Nat} {m : Mat} (h : HB B m) : Go.Rep.BM B m := fun r hr q hq => by
  obtain ⟨i, hi, rfl⟩ := List.getElem_of_mem hr
  obtain ⟨j, hj, rfl⟩ := List.getElem_of_mem hq
  have := h i j
  simpa [ent, List.getD_eq_getElem?_getD, hi, hj] using this
theorem appL_getElem {m : Mat} {v : List Rat} {i : Nat} (hi : i < m.length) (h : i < (appL m v).length) : (appL m v)[i] = dotL m[i] v := by simp [appL]
theorem mulL_getElem {a b : Mat} {n c i : Nat} (hi : i < a.length) (h : i < (mulL a b n c).length) : (mulL a b n c)[i] = appL (trL b n c) a[i] := by simp [mulL]
theorem mulL_len (a b : Mat) (n c : Nat) : (mulL a b n c).length = a.length := by simp [mulL]
theorem br_getD {B : Nat} {x : List Rat} (hx : Go.Rep.BR B x) (hB : 1 ≤ B) (q : Nat) : hq (x.getD q 0) ≤ B := by
  by_cases h : q < x.length
  · rw [List.getD_eq_getElem?_getD, List.getElem?_eq_getElem h]; exact hx _ (List.getElem_mem h)
  · rw [List.getD_eq_getElem?_getD, List.getElem?_eq_none (by omega)]
    show hq 0 ≤ B
    rw [hq_zero]; exact hB
/-- Bounds that a dot product wants. -/
theorem dot_bounds {B : Nat} {l m : List Rat} (hl : Go.Rep.BR B l) (hm : Go.Rep.BR B m) (hB : 1 ≤ B) (hn : l.length ≤ 96) (hBB : 200 * B ≤ 68000000000) : (∀ k, k ≤ l.length → hq (dotN l m k) ≤ 68719476736) ∧ ∀ k, k < l.length → hq (l.getD k 0 * m.getD k 0) ≤ 68719476736 := by
  refine ⟨fun k hk => ?_, fun k hk => ?_⟩
  · have h1 := dotN_hq hl hm hB k
    have h2 : k * (2 * B + 1) ≤ 96 * (2 * B + 1) := Nat.mul_le_mul_right _ (by omega)
    omega
  · have h1 := hq_mul (l.getD k 0) (m.getD k 0)
    have h2 := br_getD hl hB k
    have h3 := br_getD hm hB k
    omega
end Go.Lin
namespace Go.Proofs.YtjbhcniiioepgaaGreat
open Go.RowKit Go.Rep Go.Lim Go.Lin

/-- A row and no error. -/
def V2Out (X : Nat → Bool) (w : World) (l : List Rat) (e : Ending) (w' : World) : Prop := Ext w w' ∧ ∃ u, e = .returned (.tuple #[u, .int .i64 0]) ∧ RC (mk X w') u l

set_option maxRecDepth 100000 in
theorem apply_ok (X : Nat → Bool) (w : World) (u v : Value) (m : List (List Rat)) (x : List Rat) (B : Nat) (hX : HX X w) (hu : MV (mk X w) u m) (hv : RV (mk X w) v x) (hf : formedB m = true) (hc : x.length = colsL m) (hB : BM B m) (hB2 : BR B x) (hB1 : 1 ≤ B) (hBB : 200 * B ≤ 68000000000) : Calls Tryz.prog 48 #[u, v] w (V2Out X w (appL m x)) := by
  obtain ⟨hsh, h96, hc96, _, _⟩ := formedB_shp hf
  have hfo := formed_any X w u m hu (by omega)
  rw [hf] at hfo
  have hcol := columns_any X w u m hu
  obtain ⟨ua, uca, rfl, huca, hua⟩ := hu
  obtain ⟨va, vca, rfl, hvca, hva⟩ := hv
  have hhu := hua.hd
  obtain ⟨c, hce⟩ : ∃ c, colsL m = c := ⟨_, rfl⟩
  rw [hce] at hcol hc hc96 hsh
  have hne : ((x.length : Int) != (c : Int)) = false := bneF (by omega)
  have hsh' := hid hsh
  have hcc := hid hc
  have hB' := hid hB
  have hB2' := hid hB2
  obtain ⟨n, hn⟩ : ∃ n, m.length = n := ⟨_, rfl⟩
  rw [hn] at hfo hcol huca hhu h96 ⊢
  have hnn := hid hn
  have hal : Hid ((appL m x).length = n) := hid (by rw [appL_len]; exact hn)
  clear hf hsh hn hc hce hB hB2
  go_enter Tryz.func48, Tryz.ntmps48
  go_wp2_with fail
  refine hfo.mono ?_
  rintro e w1 ⟨rfl, rfl⟩
  go_wp2_with fail
  refine hcol.mono ?_
  rintro e w2 ⟨rfl, rfl⟩
  go_wp2_with fail
  go_loopw [6, 21] (fun o k wr => ∃ (i : Nat) (oo : Option Addr) (co : Nat), k = .int .i64 i ∧ o = .slice oo i co ∧ i ≤ n ∧ OL QC 3 X w2.heap.size 31 wr oo co ((appL m x).take i) ∧ Ext w2 wr) (fun _ k _ => n - (intOf k).toNat)
  case atStart => exact ⟨0, none, 0, rfl, rfl, Nat.zero_le _, OL.nil _ _ _ _ _ _, ExtX.refl _⟩
  case round =>
    obtain ⟨i, oo, co, rfl, rfl, hi, hO, hE⟩ := hrel
    have hXr : HX X wr := hX.ext hE
    have hXu : HX (un X oo) wr := hO.unX hXr
    have hbase := hE.size
    by_cases hlt : i < n
    · have him : i < m.length := by rw [hnn.out]; exact hlt
      have hiA : i < (appL m x).length := by rw [hal.out]; exact hlt
      have hsr : Sl RV 1 (mk (un X oo) wr) ua m := hua.old RV.mono hE (fun j hj => hO.ob_lt hj)
      have hvr : RV (mk (un X oo) wr) (.slice va x.length vca) x := old_un RV.mono ⟨va, vca, rfl, hvca, hva⟩ hE (fun j hj => hO.ob_lt hj)
      have htk := hid (take_snoc (appL m x) i hiA)
      have hln := hid (len_take (l := appL m x) (i := i) (by omega))
      obtain ⟨a1, c1, hX1, hc1, hcl1, hq1⟩ := hsr.row i him
      have k00 := hc1.out noY wr (ExtX.refl _) rfl
      have hrl := hid (hsh'.out.2 m[i] (List.getElem_mem _))
      have hge := hid (appL_getElem (v := x) him hiA)
      have hdb := dot_bounds (hB'.out m[i] (List.getElem_mem _)) hB2'.out hB1 (by rw [hrl.out]; exact hc96) hBB
      have hdot := dot_any (un X oo) wr _ _ m[i] x hXu ⟨a1, c1, rfl, hcl1, hq1⟩ hvr (by rw [hrl.out]; omega) (by rw [hrl.out, hcc.out]) hdb.1 hdb.2
      rw [← hge.out] at hdot
      obtain ⟨v, hv⟩ : ∃ v, (appL m x)[i] = v := ⟨_, rfl⟩
      rw [hv] at hdot htk
      clear hv hc1 hdb
      go_wp2_with (with_reducible refine up_ix1 slRats (by omega) (by assumption) ?_)
      refine hdot.mono ?_
      rintro e w6 ⟨hE6, u6, rfl, hu6⟩
      obtain ⟨s6, a6, n6, c6, d6, k6, e6, rfl⟩ := hu6.shape
      have hO6 := hO.ext0 QC.elem hE6
      have hb6 := hE6.size
      clear k00
      go_wp2_with (at_builtin; refine st_append1n (l := (appL m x).take i) slRat rfl QC.elem (by omega) (hXr.ext hE6) i hln.out rfl rfl hO6 (.agg #[.bool s6, .slice a6 n6 c6, .slice d6 k6 e6]) v rfl hu6 (by omega) (by omega) ?_; intro oo2 co2 w7 hO7 hE7 hor)
      have hE8 := (hE.trans hE6).own hO6 (Nat.le_refl _) hE7
      rw [htk.out] at hO7
      go_roundw
      case rel => exact ⟨i + 1, oo2, co2, by go_num, by go_num, by omega, hO7, hE8⟩
      case measure => simp [intOf]; omega
    · have hil : i = n := by omega
      subst hil
      rw [List.take_of_length_le (by rw [hal.out]; exact Nat.le_refl _)] at hO
      have hc := hO.lenCap
      have hs := hO.sl QC.elem
      go_wp2_with fail
      go_ret2
      exact ⟨hE, _, rfl, oo, co, by rw [hal.out]; rfl, hc, hs⟩

set_option maxRecDepth 100000 in
theorem mul_ok (X : Nat → Bool) (w : World) (u v : Value) (a b : List (List Rat)) (k n c B : Nat) (hX : HX X w) (hu : MV (mk X w) u a) (hv : MV (mk X w) v b) (hfa : formedB a = true) (hfb : formedB b = true) (ha : a.length = k) (hb : b.length = n) (hca : colsL a = n) (hcb : colsL b = c) (hB : BM B a) (hB2 : BM B b) (hB1 : 1 ≤ B) (hBB : 200 * B ≤ 68000000000) : Calls Tryz.prog 46 #[u, v] w (M2Out X w (mulL a b n c)) := by
  obtain ⟨hsa, ha96, hna96, hposa, hza⟩ := formedB_shp hfa
  obtain ⟨hsb, hb96, hcb96, hposb, hzb⟩ := formedB_shp hfb
  rw [ha, hca] at hsa
  rw [hb, hcb] at hsb
  rw [ha] at ha96 hposa hza
  rw [hb] at hb96 hposb hzb
  rw [hca] at hna96 hposa hza
  rw [hcb] at hcb96 hposb hzb
  have htr := transpose_ok X w v b n c hX hv hfb hb hcb
  have htf : Hid (0 < k → formedB (trL b n c) = true ∧ colsL (trL b n c) = n) := hid fun hk => by
    have hn1 := hposa hk
    by_cases hc0 : 0 < c
    · exact ⟨shpf (trL_shp b n c) hcb96 hn1 hna96, shpc (trL_shp b n c) hc0⟩
    · have := hposb (by omega); omega
  have htb := hid (hb_bm (trL_hb (n := n) (c := c) (bm_hb hB2 hB1)))
  have hfo := fun w' (h : Ext w w') => formed_any X w' u a (mkx MV.mono hu h) (by omega)
  have hcol := fun w' (h : Ext w w') => columns_any X w' u a (mkx MV.mono hu h)
  rw [hfa] at hfo
  rw [hca] at hcol
  have hfo' := hid hfo
  have hcol' := hid hcol
  obtain ⟨ua, uca, rfl, huca, hua⟩ := hu
  obtain ⟨va, vca, rfl, hvca, hva⟩ := hv
  have hhu := hua.hd
  have hml : Hid ((mulL a b n c).length = k) := hid (by rw [mulL_len]; exact ha)
  have hsa' := hid hsa
  have hB' := hid hB
  have haa := hid ha
  rw [ha] at huca hhu hfo' hcol' ⊢
  rw [hb] at htr hvca ⊢
  clear hfo hcol hfa hfb ha hb hca hcb hsa hsb hza hzb hposa hposb hva hB hB2
  go_enter Tryz.func46, Tryz.ntmps46
  go_wp2_with fail
  refine htr.mono ?_
  rintro e w1 ⟨hE1, ut, rfl, hut⟩
  go_wp2_with fail
  refine (hfo'.out w1 hE1).mono ?_
  rintro e w2 ⟨rfl, rfl⟩
  go_wp2_with fail
  refine (hcol'.out w2 hE1).mono ?_
  rintro e w3 ⟨rfl, rfl⟩
  have hX3 := hX.ext hE1
  have hua3 := hua.mono RV.mono (mk_ext hE1)
  go_wp2_with fail
  go_loopw [8, 34] (fun o kk wr => ∃ (i : Nat) (oo : Option Addr) (co : Nat), kk = .int .i64 i ∧ o = .slice oo i co ∧ i ≤ k ∧ OL RC 1 X w3.heap.size 33 wr oo co ((mulL a b n c).take i) ∧ Ext w3 wr) (fun _ kk _ => k - (intOf kk).toNat)
  case atStart => exact ⟨0, none, 0, rfl, rfl, Nat.zero_le _, OL.nil _ _ _ _ _ _, ExtX.refl _⟩
  case round =>
    obtain ⟨i, oo, co, rfl, rfl, hi, hO, hE⟩ := hrel
    have hXr : HX X wr := hX3.ext hE
    have hXu : HX (un X oo) wr := hO.unX hXr
    have hbase := hE.size
    by_cases hlt : i < k
    · have him : i < a.length := by rw [haa.out]; exact hlt
      have hiM : i < (mulL a b n c).length := by rw [hml.out]; exact hlt
      have hsr : Sl RV 1 (mk (un X oo) wr) ua a := hua3.old RV.mono hE (fun j hj => hO.ob_lt hj)
      have htr : MC (mk (un X oo) wr) ut (trL b n c) := old_un MC.mono hut hE (fun j hj => hO.ob_lt hj)
      have htk := hid (take_snoc (mulL a b n c) i hiM)
      have hln := hid (len_take (l := mulL a b n c) (i := i) (by omega))
      obtain ⟨a1, c1, hX1, hc1, hcl1, hq1⟩ := hsr.row i him
      have k00 := hc1.out noY wr (ExtX.refl _) rfl
      have hrl := hid (hsa'.out.2 a[i] (List.getElem_mem _))
      have hge := hid (mulL_getElem (b := b) (n := n) (c := c) him hiM)
      obtain ⟨hf1, hf2⟩ := htf.out (by omega)
      have hap := apply_ok (un X oo) wr ut _ (trL b n c) a[i] B hXu (htr.mv (fun r hr q hq => Nat.le_trans (htb.out r hr q hq) (by omega))) ⟨a1, c1, rfl, hcl1, hq1⟩ hf1 (by rw [hf2]; exact hrl.out) htb.out (hB'.out a[i] (List.getElem_mem _)) hB1 hBB
      rw [← hge.out] at hap
      obtain ⟨v, hv⟩ : ∃ v, (mulL a b n c)[i] = v := ⟨_, rfl⟩
      rw [hv] at hap htk
      clear hv hc1 hf1 hf2
      go_wp2_with (with_reducible refine up_ix1 slRats (by omega) (by assumption) ?_)
      refine hap.mono ?_
      rintro e w6 ⟨hE6, u6, rfl, hu6⟩
      obtain ⟨a6, c6, rfl, hcl6, hs6⟩ := hu6
      have hO6 := hO.ext0 RC.elem hE6
      have hb6 := hE6.size
      clear k00
      go_wp2_with (at_builtin; refine st_append1n (l := (mulL a b n c).take i) slRats rfl RC.elem (by omega) (hXr.ext hE6) i hln.out rfl rfl hO6 (.slice a6 v.length c6) v rfl ⟨a6, c6, rfl, hcl6, hs6⟩ (by omega) (by omega) ?_; intro oo2 co2 w7 hO7 hE7 hor)
      have hE8 := (hE.trans hE6).own hO6 (Nat.le_refl _) hE7
      rw [htk.out] at hO7
      go_roundw
      case rel => exact ⟨i + 1, oo2, co2, by go_num, by go_num, by omega, hO7, hE8⟩
      case measure => simp [intOf]; omega
    · have hil : i = k := by omega
      subst hil
      rw [List.take_of_length_le (by rw [hml.out]; exact Nat.le_refl _)] at hO
      have hc := hO.lenCap
      have hs := hO.sl RC.elem
      go_wp2_with fail
      go_ret2
      exact ⟨hE1.trans hE, _, rfl, oo, co, by rw [hml.out]; rfl, hc, hs⟩
end Go.Proofs.YtjbhcniiioepgaaGreat


namespace Go.Lin
open Go.Lim
theorem mulL_bm {a b : Mat} {n c B : Nat} (ha : Go.Rep.BM B a) (hb : Go.Rep.BM B b) (hB : 1 ≤ B) : Go.Rep.BM (1 + n * (2 * B + 1)) (mulL a b n c) := fun r hr q hq => by
  obtain ⟨x, hx, rfl⟩ := List.mem_map.1 hr
  obtain ⟨y, hy, rfl⟩ := List.mem_map.1 hq
  have hyb := hb_bm (trL_hb (n := n) (c := c) (bm_hb hb hB)) y hy
  have := dotN_hq hyb (ha x hx) hB y.length
  rw [(trL_shp b n c).2 y hy] at this
  unfold dotL
  rw [(trL_shp b n c).2 y hy]
  exact this
end Go.Lin


namespace Go.Lin
open Go.Lim
end Go.Lin


namespace Go.Lin
end Go.Lin
namespace Go.Proofs.YtjbhcniiioepgaaGreat
open Go.RowKit Go.Rep Go.Lim Go.Lin

end Go.Proofs.YtjbhcniiioepgaaGreat


namespace Go.Proofs.YtjbhcniiioepgaaGreat
open Go.RowKit Go.Rep Go.Lim Go.Lin

end Go.Proofs.YtjbhcniiioepgaaGreat


namespace Go.Proofs.YtjbhcniiioepgaaGreat
open Go.RowKit Go.Rep Go.Lim Go.Lin

theorem apply_no (X : Nat → Bool) (w : World) (u v : Value) (m : List (List Rat)) (hu : MV (mk X w) u m) (hl : m.length ≤ 1099511627776) (hf : formedB m = false) : Calls Tryz.prog 48 #[u, v] w (fun e w' => w' = w ∧ e = .returned (.tuple #[.slice none 0 0, .int .i64 6])) := by
  have hfo := formed_any X w u m hu hl
  rw [hf] at hfo
  clear hf
  go_enter Tryz.func48, Tryz.ntmps48
  go_wp2_with fail
  refine hfo.mono ?_
  rintro e w1 ⟨rfl, rfl⟩
  go_wp2_with fail
  go_ret2
  exact ⟨rfl, rfl⟩
theorem apply_no2 (X : Nat → Bool) (w : World) (u v : Value) (m : List (List Rat)) (x : List Rat) (hu : MV (mk X w) u m) (hv : RV (mk X w) v x) (hf : formedB m = true) (hc : x.length ≠ colsL m) : Calls Tryz.prog 48 #[u, v] w (fun e w' => w' = w ∧ e = .returned (.tuple #[.slice none 0 0, .int .i64 6])) := by
  obtain ⟨hsh, h96, hc96, _, _⟩ := formedB_shp hf
  have hfo := formed_any X w u m hu (by omega)
  rw [hf] at hfo
  have hcol := columns_any X w u m hu
  obtain ⟨va, vca, rfl, hvca, hva⟩ := hv
  obtain ⟨c, hce⟩ : ∃ c, colsL m = c := ⟨_, rfl⟩
  obtain ⟨l, hle⟩ : ∃ l, x.length = l := ⟨_, rfl⟩
  rw [hce] at hcol hc
  rw [hle] at hc ⊢
  have hne : ((l : Int) != (c : Int)) = true := bneT (by omega)
  clear hf hsh hce hle hva hc96 hc hvca
  go_enter Tryz.func48, Tryz.ntmps48
  go_wp2_with fail
  refine hfo.mono ?_
  rintro e w1 ⟨rfl, rfl⟩
  go_wp2_with fail
  refine hcol.mono ?_
  rintro e w2 ⟨rfl, rfl⟩
  go_wp2_with fail
  go_ret2
  exact ⟨rfl, rfl⟩
/-- Some result and an error, 0 where the matrix is formed. -/
def TrAny (w : World) (b : Bool) (e : Ending) (w' : World) : Prop := Ext w w' ∧ ∃ u, e = .returned (.tuple #[u, .int .i64 (if b then 0 else 6)])
theorem transpose_any (X : Nat → Bool) (w : World) (v : Value) (b : List (List Rat)) (hX : HX X w) (hv : MV (mk X w) v b) (hl : b.length ≤ 1099511627776) : Calls Tryz.prog 44 #[v] w (TrAny w (formedB b)) := by
  cases hf : formedB b
  · exact (transpose_no X w v b hv hl hf).mono fun e w' ⟨h1, h2⟩ => by subst h1 h2; exact ⟨ExtX.refl _, _, rfl⟩
  · exact (transpose_ok X w v b _ _ hX hv hf rfl rfl).mono fun e w' ⟨h1, u, h2, _⟩ => ⟨h1, u, h2⟩
theorem mul_no1 (X : Nat → Bool) (w : World) (u v : Value) (a b : List (List Rat)) (hX : HX X w) (hu : MV (mk X w) u a) (hv : MV (mk X w) v b) (hla : a.length ≤ 1099511627776) (hlb : b.length ≤ 1099511627776) (hf : formedB a = false) : Calls Tryz.prog 46 #[u, v] w (fun e w' => Ext w w' ∧ e = .returned (.tuple #[.slice none 0 0, .int .i64 6])) := by
  have htr := transpose_any X w v b hX hv hlb
  have hfo := hid (fun w' (h : Ext w w') => formed_any X w' u a (mkx MV.mono hu h) hla)
  rw [hf] at hfo
  clear hf
  obtain ⟨fb, hfb⟩ : ∃ fb, formedB b = fb := ⟨_, rfl⟩
  rw [hfb] at htr
  clear hfb
  go_enter Tryz.func46, Tryz.ntmps46
  go_wp2_with fail
  refine htr.mono ?_
  rintro e w1 ⟨hE1, ut, rfl⟩
  have h1 := hfo.out w1 hE1
  obtain ⟨q, hq⟩ : ∃ q : Int, (if fb = true then 0 else 6) = q := ⟨_, rfl⟩
  rw [hq]
  clear hq htr
  go_wp2_with fail
  refine h1.mono ?_
  rintro e w2 ⟨rfl, rfl⟩
  go_wp2_with fail
  go_ret2
  exact ⟨hE1, rfl⟩
theorem mul_no2 (X : Nat → Bool) (w : World) (u v : Value) (a b : List (List Rat)) (hX : HX X w) (hu : MV (mk X w) u a) (hv : MV (mk X w) v b) (hla : a.length ≤ 1099511627776) (hlb : b.length ≤ 1099511627776) (hf : formedB a = true) (hf2 : formedB b = false) : Calls Tryz.prog 46 #[u, v] w (fun e w' => Ext w w' ∧ e = .returned (.tuple #[.slice none 0 0, .int .i64 6])) := by
  have htr := transpose_no X w v b hv hlb hf2
  have hfo := formed_any X w u a hu hla
  rw [hf] at hfo
  clear hf hf2
  go_enter Tryz.func46, Tryz.ntmps46
  go_wp2_with fail
  refine htr.mono ?_
  rintro e w1 ⟨rfl, rfl⟩
  go_wp2_with fail
  refine hfo.mono ?_
  rintro e w2 ⟨rfl, rfl⟩
  go_wp2_with fail
  go_ret2
  exact ⟨ExtX.refl _, rfl⟩
theorem mul_no3 (X : Nat → Bool) (w : World) (u v : Value) (a b : List (List Rat)) (hX : HX X w) (hu : MV (mk X w) u a) (hv : MV (mk X w) v b) (hf : formedB a = true) (hf2 : formedB b = true) (hc : colsL a ≠ b.length) : Calls Tryz.prog 46 #[u, v] w (fun e w' => Ext w w' ∧ e = .returned (.tuple #[.slice none 0 0, .int .i64 6])) := by
  have h96 := (formedB_shp hf).2.1
  have hc96 := (formedB_shp hf).2.2.1
  have hb96 := (formedB_shp hf2).2.1
  have htr := transpose_ok X w v b _ _ hX hv hf2 rfl rfl
  have hfo := hid (fun w' (h : Ext w w') => formed_any X w' u a (mkx MV.mono hu h) (by omega))
  rw [hf] at hfo
  have hcol := hid (fun w' (h : Ext w w') => columns_any X w' u a (mkx MV.mono hu h))
  obtain ⟨va, vca, rfl, hvca, hva⟩ := hv
  obtain ⟨c, hce⟩ : ∃ c, colsL a = c := ⟨_, rfl⟩
  obtain ⟨T, hT⟩ : ∃ T, trL b b.length (colsL b) = T := ⟨_, rfl⟩
  rw [hT] at htr
  obtain ⟨l, hle⟩ : ∃ l, b.length = l := ⟨_, rfl⟩
  rw [hce] at hcol hc hc96
  rw [hle] at hc htr hb96 ⊢
  have hne : ((c : Int) != (l : Int)) = true := bneT (by omega)
  clear hf hf2 hce hle hva hc hvca hT
  go_enter Tryz.func46, Tryz.ntmps46
  go_wp2_with fail
  refine htr.mono ?_
  rintro e w1 ⟨hE1, ut, rfl, _⟩
  have h1 := hfo.out w1 hE1
  clear htr
  go_wp2_with fail
  refine h1.mono ?_
  rintro e w2 ⟨rfl, rfl⟩
  have h2 := hcol.out w2 hE1
  clear h1
  go_wp2_with fail
  refine h2.mono ?_
  rintro e w3 ⟨rfl, rfl⟩
  go_wp2_with fail
  go_ret2
  exact ⟨hE1, rfl⟩
end Go.Proofs.YtjbhcniiioepgaaGreat


namespace Go.Proofs.YtjbhcniiioepgaaGreat
open Go.RowKit Go.Rep Go.Lim Go.Lin

/-- A matrix, some column numbers, and no error. -/
def M3Out (X : Nat → Bool) (w : World) (m : List (List Rat)) (p : List Nat) (e : Ending) (w' : World) : Prop := Ext w w' ∧ ∃ u v, e = .returned (.tuple #[u, v, .int .i64 0]) ∧ MC (mk X w') u m ∧ SlV (NatIn .i64) 1 (mk X w') v p

theorem preduce_ok (X : Nat → Bool) (w : World) (u : Value) (m : List (List Rat)) (hX : HX X w) (hu : MV (mk X w) u m) (hf : formedB m = true) (hT : Tame m (colsL m)) : Calls Tryz.prog 21 #[u] w (M3Out X w (redP m (colsL m)).1 (redP m (colsL m)).2) := by
  obtain ⟨hsh, h96, hc96, _, _⟩ := formedB_shp hf
  have hfo := formed_any X w u m hu (by omega)
  rw [hf] at hfo
  have hco := copied_any X w u m m.length (colsL m) hX hu hsh rfl (by omega) (by omega)
  have hrs := hid (redP_ok hsh).1
  clear hf
  go_enter Tryz.func21, Tryz.ntmps21
  go_wp2_with fail
  refine hfo.mono ?_
  rintro e w1 ⟨rfl, rfl⟩
  go_wp2_with fail
  refine hco.mono ?_
  rintro e w2 ⟨hE2, ao, cap, hs, rfl, hM2⟩
  go_wp2_with fail
  refine (mreduce_any X _ w2 ao cap m.length (colsL m) hs m (hX.ext hE2) hM2 hsh rfl (by omega) (by omega) hT).mono ?_
  rintro e w3 ⟨hE3, po, pc, hs', rfl, hmb, hM3, hP3⟩
  have hEf := hM2.ext_from hE2 (Nat.le_refl _) hE3
  have hmc := MC.mono _ _ _ _ (mk_sub (X := X) fun k _ hk => un_left hk) hM3.mc
  have hps : SlV (NatIn .i64) 1 (mk X w3) (.slice po (redP m (colsL m)).2.length pc) (redP m (colsL m)).2 := ⟨po, pc, rfl, hP3.lenCap, (hP3.sl (NatIn.elem _)).mono (NatIn.mono _) (mk_sub fun k _ hk => mz_iff.2 (.inl hk))⟩
  rw [hrs.out.1] at hmc
  go_wp2_with fail
  go_ret3
  exact ⟨hEf, _, _, rfl, hmc, hps⟩
end Go.Proofs.YtjbhcniiioepgaaGreat


namespace Go.Lin
open Go.Lim
end Go.Lin


namespace Go.Lin
open Go.Lim
end Go.Lin
namespace Go.Proofs.YtjbhcniiioepgaaGreat
open Go.RowKit Go.Rep Go.Lim Go.Lin

end Go.Proofs.YtjbhcniiioepgaaGreat


namespace Go.Proofs.YtjbhcniiioepgaaGreat
open Go.RowKit Go.Rep Go.Lim Go.Lin

set_option maxRecDepth 100000 in
set_option maxHeartbeats 1600000 in
theorem rdot_any (X : Nat → Bool) (w : World) (u v : Value) (l m : List Rat) (hX : HX X w) (hu : RV (mk X w) u l) (hv : RV (mk X w) v m) (hn : l.length ≤ 1000000) (hml : m.length = l.length) (hb1 : ∀ k, k ≤ l.length → hq (dotN l m k) ≤ 68719476736) (hb2 : ∀ k, k < l.length → hq (l.getD k 0 * m.getD k 0) ≤ 68719476736) :
    Calls Tryz.prog 106 #[u, v] w (ROut X w QC (dotL l m)) := by
  obtain ⟨ao, ca, rfl, hca, hsa⟩ := hu
  obtain ⟨bo, cb, rfl, hcb, hsb⟩ := hv
  have hha := hsa.hd
  have hhb := hsb.hd
  obtain ⟨W, hW, hE, b0, b1, hz⟩ := boxes2 w #[.bool false, .slice none 0 0, .slice none 0 0] #[.bool false, .slice none 0 0, .slice none 0 0] 31 31
  have hXW : HX (hidB X w.heap.size 2) W := hX.boxes hz
  have h0 : QC (mk (hidB X w.heap.size 2) W) (.agg #[.bool false, .slice none 0 0, .slice none 0 0]) (dotN l m 0) := QC.zero _
  obtain ⟨n, hln⟩ : ∃ n, l.length = n := ⟨_, rfl⟩
  rw [hln] at hn hml hb1 hb2 hca hha ⊢
  rw [hml] at hcb hhb ⊢
  have hln' := hid hln
  have hml' := hid hml
  have hb1' := hid hb1
  have hb2' := hid hb2
  have hdot : Hid (dotN l m n = dotL l m) := hid (by unfold dotL; rw [hln])
  clear hln hml hb1 hb2
  go_enter Tryz.func106, Tryz.ntmps106
  go_wp2_with ((with_reducible show wpList _ _ _ (⟨_, .store _ _ _, _, _, _, _⟩ :: _) _ _); refine st_storeBox stRat rfl rfl b1 rfl rfl (one3 _ _ _ _ _ _ _) ?_; intro W2 b1 r2)
  obtain ⟨b, hb⟩ : ∃ b, w.heap.size = b := ⟨_, rfl⟩
  have hle : Hid (∀ wr, Ext w wr → Le (mk X w) (mk (hidB X b 2) wr)) := hid fun wr h => by rw [← hb]; exact le_boxes h
  have hbw : w.heap.size ≤ b := by omega
  have hE2 : Ext w W2 := ExtX.box hE r2 (by omega)
  have b02 := b0.ext r2 (ob_other (by omega))
  have hXW2 := hXW.ext r2
  have h02 : QC (mk (hidB X w.heap.size 2) W2) (.agg #[.bool false, .slice none 0 0, .slice none 0 0]) (dotN l m 0) := QC.zero _
  rw [hb] at b02 b1 hXW2 h02
  rw [hb] at b0 hXW h0 ⊢
  clear hW b0 hXW h0 hE
  go_loopw [6] (fun k wr => ∃ (i : Nat) (s : Bool) (a : Option Addr) (n' c' : Nat) (d : Option Addr) (kk e : Nat), k = .int .i64 i ∧ i ≤ n ∧ Bx wr b #[.bool false, .slice none 0 0, .slice none 0 0] 31 ∧ Bx wr (b + 1) #[.bool s, .slice a n' c', .slice d kk e] 31 ∧ QC (mk (hidB X b 2) wr) (.agg #[.bool s, .slice a n' c', .slice d kk e]) (dotN l m i) ∧ HX (hidB X b 2) wr ∧ Ext w wr) (fun k _ => n - (intOf k).toNat)
  case atStart => exact ⟨0, _, _, _, _, _, _, _, rfl, Nat.zero_le _, b02, b1, h02, hXW2, hE2⟩
  case round =>
    obtain ⟨i, s, a, n', c', d, kk, e, rfl, hi, b0, b1, hq, hXr, hEr⟩ := hrel
    by_cases hlt : i < n
    · have hil : i < l.length := by rw [hln'.out]; exact hlt
      have him : i < m.length := by rw [hml'.out]; exact hlt
      have hsr := hsa.mono QV.mono (hle.out wr hEr)
      have hsr2 := hsb.mono QV.mono (hle.out wr hEr)
      obtain ⟨g1, o1, s1, p1, n1, q1, d1, k1, e1, hg1, hX1, hc1, hq1⟩ := hsr.rat QV.shaped i hil
      obtain ⟨g2, o2, s2, p2, n2, q2, d2, k2, e2, hg2, hX2, hc2, hq2⟩ := hsr2.rat QV.shaped i him
      have gl : Hid (l.getD i 0 = l[i]) := hid (by simp [List.getD_eq_getElem?_getD, hil])
      have gm : Hid (m.getD i 0 = m[i]) := hid (by simp [List.getD_eq_getElem?_getD, him])
      have hst : Hid (dotN l m i + l[i] * m[i] = dotN l m (i + 1)) := hid (by rw [← gl.out, ← gm.out]; rfl)
      have hbo := hid (hb1'.out i hi)
      have hbp := hid (hb2'.out i hlt)
      rw [gl.out, gm.out] at hbp
      obtain ⟨x, hx⟩ : ∃ x, l[i] = x := ⟨_, rfl⟩
      obtain ⟨y, hy⟩ : ∃ y, m[i] = y := ⟨_, rfl⟩
      rw [hx, hy] at hst hbp
      rw [hx] at hq1
      rw [hy] at hq2
      have i1 : ∀ W, (Instr.indexAt 33 (.slice ao n ca) (.int .i64 (i : Int))).run Tryz.prog W = .ok (.pointer (some ⟨g1, o1, none⟩)) W := by rw [← hg1]; exact run_indexAt_adr slRat ao n ca .i64 i hha (by omega)
      have i2 : ∀ W, (Instr.indexAt 33 (.slice bo n cb) (.int .i64 (i : Int))).run Tryz.prog W = .ok (.pointer (some ⟨g2, o2, none⟩)) W := by rw [← hg2]; exact run_indexAt_adr slRat bo n cb .i64 i hhb (by omega)
      obtain ⟨D, hD⟩ : ∃ D, dotN l m i = D := ⟨_, rfl⟩
      obtain ⟨D2, hD2⟩ : ∃ D2, dotN l m (i + 1) = D2 := ⟨_, rfl⟩
      rw [hD] at hq hst hbo
      rw [hD2] at hst
      have hD2' := hid hD2
      clear hx hy hg1 hg2 hD hD2
      have hE5d : Ext wr wr.drew := (ExtX.refl wr).drew
      have b05 := b0.ext0 hE5d
      have b15 := b1.ext0 hE5d
      have k00 := b15.cell 0 rfl
      have k01 := b15.cell 1 rfl
      have k02 := b15.cell 2 rfl
      obtain ⟨k10, k11, k12⟩ := hc1.out noY wr.drew hE5d rfl
      obtain ⟨k20, k21, k22⟩ := hc2.out noY wr.drew hE5d rfl
      have hXd := hXr.ext hE5d
      have hx5 : QV (mk (hidB X b 2) wr.drew) (.agg #[.bool s1, .slice p1 n1 q1, .slice d1 k1 e1]) x := mkx QV.mono hq1 hE5d
      have hy5 : QV (mk (hidB X b 2) wr.drew) (.agg #[.bool s2, .slice p2 n2 q2, .slice d2 k2 e2]) y := mkx QV.mono hq2 hE5d
      have hq5 : QV (mk (hidB X b 2) wr.drew) (.agg #[.bool s, .slice a n' c', .slice d kk e]) D := (mkx QC.mono hq hE5d).qv hbo.out
      clear hc1 hc2
      go_wp2_with fail
      go_region_with (first | (go_at_call 57; (with_reducible refine (rqmul (hidB X b 2) wr.drew _ _ _ _ hXd hx5 hy5).mono ?_); rintro ee w6 ⟨t1, u6, rfl, hu6⟩; obtain ⟨s6, a6, n6, c6, d6, k6, e6, rfl⟩ := hu6.shape; have hX6 := hXd.ext t1; have hq6 := mkx QV.mono hq5 t1; have hm6 := hu6.qv hbp.out; have b16 := b15.ext0 t1; have m0 := b16.cell 0 rfl; have m1 := b16.cell 1 rfl; have m2 := b16.cell 2 rfl) | (go_at_call 87; (with_reducible refine (rqadd (hidB X b 2) w6 _ _ _ _ hX6 hq6 hm6).mono ?_); rintro ee w7 ⟨t7, u7, rfl, hu7⟩; obtain ⟨s7, a7, n7, c7, d7, k7, e7, rfl⟩ := hu7.shape; rw [hst.out] at hu7; have b17 := b16.ext0 t7; have g0 := b17.cell 0 rfl; have g1' := b17.cell 1 rfl; have g2' := b17.cell 2 rfl; have f0 := b17.frozen 0; have f1 := b17.frozen 1; have f2 := b17.frozen 2))
      all_goals
        obtain ⟨z1, z2⟩ := b17.set3 (.bool s7) (.slice a7 n7 c7) (.slice d7 k7 e7)
        have h8 := QC.mono _ _ _ _ (le_store (lo := b) (nb := 2) z2 (by omega) (by omega)) hu7
        have b08 := ((b05.ext0 t1).ext0 t7).ext z2 (ob_other (by omega))
        have hE8 : Ext w _ := ExtX.box (hEr.trans (hE5d.trans (t1.trans t7))) z2 (by omega)
        have hX8 := (hX6.ext t7).ext z2
        rw [← hD2'.out] at h8
        clear k00 k01 k02 k10 k11 k12 k20 k21 k22 m0 m1 m2 g0 g1' g2' f0 f1 f2 i1 i2
        go_wp2_with fail
        go_roundw
        case rel => exact ⟨i + 1, _, _, _, _, _, _, _, by go_num, by omega, b08, z1, h8, hX8, hE8⟩
        case measure => simp [intOf]; omega
    · have hin : i = n := by omega
      subst hin
      rw [hdot.out] at hq
      have k00 := b1.cell 0 rfl
      have k01 := b1.cell 1 rfl
      have k02 := b1.cell 2 rfl
      go_wp2_with ((with_reducible show wpList _ _ _ (⟨_, .store _ _ _, _, _, _, _⟩ :: _) _ _); refine st_storeBox stRat rfl rfl b0 rfl rfl (one3 _ _ _ _ _ _ _) ?_; intro w7 r1 r2)
      have h7 := QC.mono _ _ _ _ le_unbox (QC.mono _ _ _ _ (le_store r2 (by omega) (by omega)) hq)
      exact bodyPost_ret (results_box rfl rfl stRat r1 rfl) rfl ⟨ExtX.box hEr r2 (by omega), _, rfl, h7⟩
end Go.Proofs.YtjbhcniiioepgaaGreat


namespace Go.Lin
theorem ent_at {m : Mat} {i j : Nat} (hi : i < m.length) (hj : j < m[i].length) : m[i][j] = ent m i j := by
  unfold ent
  rw [show m.getD i [] = m[i] by simp [List.getD_eq_getElem?_getD, hi], List.getD_eq_getElem?_getD, List.getElem?_eq_getElem hj]; rfl
end Go.Lin
namespace Go.Proofs.YtjbhcniiioepgaaGreat
open Go.RowKit Go.Rep Go.Lim Go.Lin

theorem rcolumns {R : Mem → Value → Rat → Prop} (X : Nat → Bool) (w : World) (u : Value) (m : List (List Rat)) (hu : SlV (SlV R 3) 1 (mk X w) u m) : Calls Tryz.prog 100 #[u] w (fun e w' => w' = w ∧ e = .returned (.int .i64 (colsL m : Int))) := by
  obtain ⟨ao, ca, rfl, hca, hsa⟩ := hu
  have hha := hsa.hd
  by_cases h : 0 < m.length
  · obtain ⟨a1, c1, hX1, hc1, hcl1, hq1⟩ := hsa.row 0 h
    have k00 := hc1.out noY w (ExtX.refl _) rfl
    have hc := hid (colsL_pos h)
    have hI : ((m.length : Int) == 0) = false := beqF (by omega)
    go_enter Tryz.func100, Tryz.ntmps100
    go_wp2_with (with_reducible refine up_ix1 slRats (by omega) (by assumption) ?_)
    go_ret
    exact ⟨rfl, ret_int (by rw [hc.out])⟩
  · have hc : Hid (colsL m = 0) := hid (by
      have : m = [] := List.eq_nil_of_length_eq_zero (by omega)
      subst this; rfl)
    have hI : ((m.length : Int) == 0) = true := beqT (by omega)
    go_enter Tryz.func100, Tryz.ntmps100
    go_wp2_with (with_reducible refine up_ix1 slRats (by omega) (by assumption) ?_)
    go_ret
    exact ⟨rfl, ret_int (by rw [hc.out]; rfl)⟩

set_option maxRecDepth 100000 in
theorem rformed {R : Mem → Value → Rat → Prop} (hR : Mono R) (X : Nat → Bool) (w : World) (u : Value) (m : List (List Rat)) (hu : SlV (SlV R 3) 1 (mk X w) u m) (hl : m.length ≤ 1099511627776) : Calls Tryz.prog 93 #[u] w (BOut w (formedB m)) := by
  obtain ⟨ao, ca, rfl, hca, hsa⟩ := hu
  have hha := hsa.hd
  by_cases h96 : 96 < m.length
  · have hv : Hid (false = formedB m) := hid (by
      symm
      cases hf : formedB m
      · rfl
      · have := (formedB_true.1 hf).1; omega)
    have hI : (96 : Int) < (m.length : Int) := by omega
    go_enter Tryz.func93, Tryz.ntmps93
    go_wp2_with fail
    go_ret
    exact ⟨ExtX.refl _, ret_bool hv.out⟩
  · have hI : ¬ (96 : Int) < (m.length : Int) := by omega
    obtain ⟨n, hn⟩ : ∃ n, m.length = n := ⟨_, rfl⟩
    have hn' := hid hn
    have hn6 : n ≤ 96 := by omega
    rw [hn] at hha hI ⊢
    clear hn hl h96 hca
    go_enter Tryz.func93, Tryz.ntmps93
    go_wp2_with fail
    go_loopw [3] (fun c wr => ∃ (i : Nat), c = .int .i64 i ∧ i ≤ n ∧ Hid (∀ q, q < i → ∀ hq : q < m.length, 1 ≤ m[q].length ∧ m[q].length ≤ 96 ∧ m[q].length = colsL m) ∧ Ext w wr) (fun c _ => n - (intOf c).toNat)
    case atStart => exact ⟨0, rfl, Nat.zero_le _, hid (fun q hq => by omega), ExtX.refl _⟩
    case round =>
      obtain ⟨i, rfl, hi, hok, hE⟩ := hrel
      by_cases hlt : i < n
      · have hil : i < m.length := by rw [hn'.out]; exact hlt
        have h0 : 0 < m.length := by omega
        have hsr := hsa.mono (SlV.mono hR 3) (mk_ext hE)
        obtain ⟨a1, c1, hX1, hc1, hcl1, hq1⟩ := hsr.row i hil
        obtain ⟨a2, c2, hX2, hc2, hcl2, hq2⟩ := hsr.row 0 h0
        have k00 := hc1.out noY wr (ExtX.refl _) rfl
        have k10 := hc2.out noY wr (ExtX.refl _) rfl
        have i1 : ∀ W, (Instr.indexAt 23 (.slice ao n ca) (.int .i64 (i : Int))).run Tryz.prog W = .ok (.pointer (some (adr ao i))) W := run_ix1 slRats ao n ca .i64 i hha (by omega) rfl
        have i0 : ∀ W, (Instr.indexAt 23 (.slice ao n ca) (.int .i64 0)).run Tryz.prog W = .ok (.pointer (some (adr ao 0))) W := run_ix1 slRats ao n ca .i64 0 hha (by omega) rfl
        have hcol := colsL_pos h0
        have hno := hid (formedB_false i hil)
        rw [← hcol] at k10
        obtain ⟨x, hx⟩ : ∃ x, m[i].length = x := ⟨_, rfl⟩
        obtain ⟨y, hy⟩ : ∃ y, colsL m = y := ⟨_, rfl⟩
        rw [hx] at k00 hno
        rw [hy] at k10 hno
        have hst : Hid (1 ≤ x ∧ x ≤ 96 ∧ x = y → ∀ hq : i < m.length, 1 ≤ m[i].length ∧ m[i].length ≤ 96 ∧ m[i].length = colsL m) := hid fun h hq => by rw [hx, hy]; exact h
        clear hx hy hcol hc1 hc2 hq1 hq2 hcl1 hcl2 h0 hil
        by_cases hx0 : x = 0
        · have d0 : decide ((x : Int) < 1) = true := decide_eq_true (by omega)
          have hv := hid (hno.out (by omega))
          clear hx0 hno hst
          go_wp2_with fail
          go_region
          all_goals
            clear k00 k10 i1 i0
            go_wp2_with fail
            go_ret
            exact ⟨hE.trans (ExtX.refl wr).drew, ret_bool hv.out⟩
        · have d0 : decide ((x : Int) < 1) = false := decide_eq_false (by omega)
          by_cases hx1 : 96 < x
          · have d1 : decide ((96 : Int) < (x : Int)) = true := decide_eq_true (by omega)
            have hv := hid (hno.out (by omega))
            clear hx0 hno hst
            go_wp2_with fail
            go_region
            all_goals
              clear k00 k10 i1 i0
              go_wp2_with fail
              go_ret
              exact ⟨hE.trans (ExtX.refl wr).drew, ret_bool hv.out⟩
          · have d1 : decide ((96 : Int) < (x : Int)) = false := decide_eq_false (by omega)
            by_cases hxy : x = y
            · have d2 : ((x : Int) != (y : Int)) = false := bneF (by omega)
              have hst2 := hid (hst.out ⟨by omega, by omega, hxy⟩)
              clear hx0 hxy hno hst hx1
              go_wp2_with fail
              go_region
              all_goals
                clear k00 k10 i1 i0
                go_wp2_with fail
                go_roundw
                case rel => exact ⟨i + 1, by go_num, by omega, hid (upto_succ hok.out hst2.out), hE.trans (ExtX.refl wr).drew⟩
                case measure => simp [intOf]; omega
            · have d2 : ((x : Int) != (y : Int)) = true := bneT (by omega)
              have hv := hid (hno.out (by omega))
              clear hx0 hxy hno hst hx1
              go_wp2_with fail
              go_region
              all_goals
                clear k00 k10 i1 i0
                go_wp2_with fail
                go_ret
                exact ⟨hE.trans (ExtX.refl wr).drew, ret_bool hv.out⟩
      · have hv : Hid (true = formedB m) := hid (by
          symm
          exact formedB_true.2 ⟨by rw [hn'.out]; omega, fun q hq => hok.out q (by rw [hn'.out] at hq; omega) hq⟩)
        go_wp2_with fail
        go_ret
        exact ⟨hE, ret_bool hv.out⟩
end Go.Proofs.YtjbhcniiioepgaaGreat


namespace Go.Lin
theorem trL_row (m : Mat) (n c j : Nat) (_hj : j < c) (h : j < (trL m n c).length) : (trL m n c)[j] = (List.range n).map fun p => ent m p j := by simp [trL]
end Go.Lin
namespace Go.Proofs.YtjbhcniiioepgaaGreat
open Go.RowKit Go.Rep Go.Lim Go.Lin

theorem rtranspose_no (X : Nat → Bool) (w : World) (u : Value) (m : List (List Rat)) (hu : MV (mk X w) u m) (hl : m.length ≤ 1099511627776) (hf : formedB m = false) : Calls Tryz.prog 45 #[u] w (fun e w' => Ext w w' ∧ e = .returned (.tuple #[.slice none 0 0, .int .i64 6])) := by
  have hfo := rformed QV.mono X w u m hu hl
  rw [hf] at hfo
  clear hf
  go_enter Tryz.func45, Tryz.ntmps45
  go_wp2_with fail
  refine hfo.mono ?_
  rintro e w1 ⟨hE1, rfl⟩
  go_wp2_with fail
  go_ret2
  exact ⟨hE1, rfl⟩

set_option maxRecDepth 100000 in
set_option maxHeartbeats 800000 in
theorem rtranspose_ok (X : Nat → Bool) (w : World) (u : Value) (m : List (List Rat)) (n c : Nat) (hX : HX X w) (hu : MV (mk X w) u m) (hf : formedB m = true) (hnn : m.length = n) (hcc : colsL m = c) : Calls Tryz.prog 45 #[u] w (M2Out X w (trL m n c)) := by
  obtain ⟨hsh, h96, hc96, _, _⟩ := formedB_shp hf
  rw [hnn, hcc] at hsh
  rw [hnn] at h96
  rw [hcc] at hc96
  have hfo := rformed QV.mono X w u m hu (by omega)
  rw [hf] at hfo
  have hcol := hid (fun w' (h : Ext w w') => rcolumns X w' u m (mkx MV.mono hu h))
  rw [hcc] at hcol
  obtain ⟨M, hM⟩ : ∃ M, trL m n c = M := ⟨_, rfl⟩
  have hMl : Hid (M.length = c) := hid (by rw [← hM]; exact (trL_shp m n c).1)
  have hMr : Hid (∀ j (hj : j < c) (h : j < M.length), M[j] = (List.range n).map fun p => ent m p j) := hid fun j hj h => by subst hM; exact trL_row m n c j hj h
  have hMl2 : M.length ≤ c := by rw [hMl.out]; exact Nat.le_refl _
  have hMl3 : c ≤ M.length := by rw [hMl.out]; exact Nat.le_refl _
  have hnn' := hid hnn
  have hsh' := hid hsh
  rw [hM]
  obtain ⟨ua, uca, rfl, huca, hua⟩ := hu
  have hhu := hua.hd
  rw [hnn] at hfo hcol huca hhu ⊢
  clear hM hf hnn hcc hsh
  go_enter Tryz.func45, Tryz.ntmps45
  go_wp2_with fail
  refine hfo.mono ?_
  rintro e w1 ⟨hE1, rfl⟩
  go_wp2_with fail
  go_loopw [4, 5] (fun o cc wr => ∃ (j : Nat) (oo : Option Addr) (co : Nat), cc = .int .i64 j ∧ o = .slice oo j co ∧ j ≤ c ∧ OL RC 1 X w.heap.size 33 wr oo co (M.take j) ∧ Ext w wr) (fun _ cc _ => c - (intOf cc).toNat)
  case atStart => exact ⟨0, none, 0, rfl, rfl, Nat.zero_le _, OL.nil _ _ _ _ _ _, hE1⟩
  case round =>
    obtain ⟨j, oo, co, rfl, rfl, hj, hO, hE⟩ := hrel
    have hXr : HX X wr := hX.ext hE
    have hXu : HX (un X oo) wr := hO.unX hXr
    have hbase := hE.size
    have hcr := hcol.out wr hE
    by_cases hlt : j < c
    · have hltM : j < M.length := by omega
      have htk := hid (take_snoc M j hltM)
      have hln := hid (len_take (l := M) (i := j) (by omega))
      obtain ⟨R, hR⟩ : ∃ R, M[j] = R := ⟨_, rfl⟩
      have hRd := hMr.out j hlt hltM
      rw [hR] at hRd htk
      have hRl : Hid (R.length = n) := hid (by rw [hRd]; simp)
      have hRi : Hid (∀ i (hi : i < n) (h : i < R.length), R[i] = ent m i j) := hid fun i hi h => by subst hRd; simp
      have hRl2 : R.length ≤ n := by rw [hRl.out]; exact Nat.le_refl _
      have hRl3 : n ≤ R.length := by rw [hRl.out]; exact Nat.le_refl _
      clear hRd hR
      obtain ⟨wo, hwo⟩ : ∃ wo, wo = wr := ⟨_, rfl⟩
      subst hwo
      go_wp2_with fail
      refine hcr.mono ?_
      rintro e w2 ⟨rfl, rfl⟩
      go_wp2_with fail
      go_loopw [6, 7] (fun o cc wx => ∃ (i : Nat) (ro : Option Addr) (cr : Nat), cc = .int .i64 i ∧ o = .slice ro i cr ∧ i ≤ n ∧ OL QC 3 (un X oo) w2.heap.size 31 wx ro cr (R.take i) ∧ Ext w2 wx) (fun _ cc _ => n - (intOf cc).toNat)
      case atStart => exact ⟨0, none, 0, rfl, rfl, Nat.zero_le _, OL.nil _ _ _ _ _ _, ExtX.refl _⟩
      case round =>
        obtain ⟨i, ro, cr, rfl, rfl, hi, hOr, hEr⟩ := hrel
        have hXx : HX (un X oo) wr := hXu.ext hEr
        have hXy : HX (un (un X oo) ro) wr := hOr.unX hXx
        have hbr := hEr.size
        by_cases hli : i < n
        · have him : i < m.length := by rw [hnn'.out]; exact hli
          have hliR : i < R.length := by omega
          have htj := hid (take_snoc R i hliR)
          have hlnj := hid (len_take (l := R) (i := i) (by omega))
          have hRj := hRi.out i hli hliR
          rw [hRj] at htj
          have hsr0 : Sl RV 1 (mk (un X oo) w2) ua m := hua.old RV.mono hE (fun j hj => hO.ob_lt hj)
          have hsr : Sl RV 1 (mk (un (un X oo) ro) wr) ua m := hsr0.old RV.mono hEr (fun j hj => hOr.ob_lt hj)
          obtain ⟨a1, c1, hX1, hc1, hcl1, hq1⟩ := hsr.row i him
          have k00 := hc1.out noY wr (ExtX.refl _) rfl
          have hrl : Hid (m[i].length = c) := hid (hsh'.out.2 m[i] (List.getElem_mem _))
          have hjm : j < m[i].length := by rw [hrl.out]; exact hlt
          have hei := hid (ent_at him hjm)
          obtain ⟨x, hx⟩ : ∃ x, m[i] = x := ⟨_, rfl⟩
          rw [hrl.out] at k00 hcl1
          have hh1 : Hd a1 c := by have := hq1.hd; rw [hrl.out] at this; exact this
          obtain ⟨v, hv⟩ : ∃ v, ent m i j = v := ⟨_, rfl⟩
          rw [hv] at hei htj
          clear hc1 hRj hv hx
          go_wp2_with (first | (with_reducible refine up_ix1 slRats (by omega) (by assumption) ?_) | (with_reducible refine up_ixn slRat (by omega) (by assumption) ?_) | ((with_reducible show wpList _ _ _ (⟨_, .load 31 _, _, _, _, _⟩ :: _) _ _); refine st_loadElem stRat j hq1 hjm rfl (by simp) QV.agg ?_; intro u5 hu5; rw [hei.out] at hu5; obtain ⟨s5, a5, n5, c5, d5, k5, e5, rfl⟩ := hu5.shape))
          refine (rqtake (un (un X oo) ro) wr _ _ hXy hu5).mono ?_
          rintro e w6 ⟨hE6, u6, rfl, hu6⟩
          obtain ⟨s6, a6, n6, c6, d6, k6, e6, rfl⟩ := hu6.shape
          have hO6 := hOr.ext0 QC.elem hE6
          have hb6 := hE6.size
          clear k00
          go_wp2_with (at_builtin; refine st_append1n (l := R.take i) slRat rfl QC.elem (by omega) (hXx.ext hE6) i hlnj.out rfl rfl hO6 (.agg #[.bool s6, .slice a6 n6 c6, .slice d6 k6 e6]) v rfl hu6 (by omega) (by omega) ?_; intro oo2 co2 w7 hO7 hE7 hor)
          have hE8 := (hEr.trans hE6).own hO6 (Nat.le_refl _) hE7
          rw [htj.out] at hO7
          go_roundw
          case rel => exact ⟨i + 1, oo2, co2, by go_num, by go_num, by omega, hO7, hE8⟩
          case measure => simp [intOf]; omega
        · have hin : i = n := by omega
          subst hin
          rw [List.take_of_length_le (by omega)] at hOr
          have hcr := hOr.lenCap
          have hsR := hOr.sl QC.elem
          have hO6 := hO.ext0 RC.elem hEr
          have hRC : RC (mk (un X oo) wr) (.slice ro i cr) R := ⟨ro, cr, by rw [hRl.out], hcr, hsR⟩
          go_wp2_with (at_builtin; refine st_append1n (l := M.take j) slRats rfl RC.elem (by omega) (hXr.ext hEr) j hln.out rfl rfl hO6 (.slice ro i cr) R rfl hRC (by omega) (by omega) ?_; intro oo2 co2 w7 hO7 hE7 hor)
          have hE8 := (hE.trans hEr).own hO6 (Nat.le_refl _) hE7
          rw [htk.out] at hO7
          go_roundw
          case rel => exact ⟨j + 1, oo2, co2, by go_num, by go_num, by omega, hO7, hE8⟩
          case measure => simp [intOf]; omega
    · have hil : j = c := by omega
      subst hil
      rw [List.take_of_length_le (by omega)] at hO
      have hc := hO.lenCap
      have hs := hO.sl RC.elem
      go_wp2_with fail
      refine hcr.mono ?_
      rintro e w2 ⟨rfl, rfl⟩
      go_wp2_with fail
      go_ret2
      exact ⟨hE, _, rfl, oo, co, by rw [hMl.out]; rfl, hc, hs⟩

theorem rapply_no (X : Nat → Bool) (w : World) (u v : Value) (m : List (List Rat)) (hu : MV (mk X w) u m) (hl : m.length ≤ 1099511627776) (hf : formedB m = false) : Calls Tryz.prog 49 #[u, v] w (fun e w' => Ext w w' ∧ e = .returned (.tuple #[.slice none 0 0, .int .i64 6])) := by
  have hfo := rformed QV.mono X w u m hu hl
  rw [hf] at hfo
  clear hf
  go_enter Tryz.func49, Tryz.ntmps49
  go_wp2_with fail
  refine hfo.mono ?_
  rintro e w1 ⟨hE1, rfl⟩
  go_wp2_with fail
  go_ret2
  exact ⟨hE1, rfl⟩

theorem rapply_no2 (X : Nat → Bool) (w : World) (u v : Value) (m : List (List Rat)) (x : List Rat) (hu : MV (mk X w) u m) (hv : RV (mk X w) v x) (hf : formedB m = true) (hc : x.length ≠ colsL m) (_hx : x.length ≤ 1099511627776) : Calls Tryz.prog 49 #[u, v] w (fun e w' => Ext w w' ∧ e = .returned (.tuple #[.slice none 0 0, .int .i64 6])) := by
  obtain ⟨hsh, h96, hc96, _, _⟩ := formedB_shp hf
  have hfo := rformed QV.mono X w u m hu (by omega)
  rw [hf] at hfo
  have hcol := hid (fun w' (h : Ext w w') => rcolumns X w' u m (mkx MV.mono hu h))
  obtain ⟨va, vca, rfl, hvca, hva⟩ := hv
  obtain ⟨c, hce⟩ : ∃ c, colsL m = c := ⟨_, rfl⟩
  obtain ⟨l, hle⟩ : ∃ l, x.length = l := ⟨_, rfl⟩
  rw [hce] at hcol hc
  rw [hle] at hc ⊢
  have hne : ((l : Int) != (c : Int)) = true := bneT (by omega)
  clear hf hsh hce hle hva hc96 hc hvca
  go_enter Tryz.func49, Tryz.ntmps49
  go_wp2_with fail
  refine hfo.mono ?_
  rintro e w1 ⟨hE1, rfl⟩
  have hcr := hcol.out w1 hE1
  go_wp2_with fail
  refine hcr.mono ?_
  rintro e w2 ⟨rfl, rfl⟩
  go_wp2_with fail
  go_ret2
  exact ⟨hE1, rfl⟩

set_option maxRecDepth 100000 in
theorem rapply_ok (X : Nat → Bool) (w : World) (u v : Value) (m : List (List Rat)) (x : List Rat) (B : Nat) (hX : HX X w) (hu : MV (mk X w) u m) (hv : RV (mk X w) v x) (hf : formedB m = true) (hc : x.length = colsL m) (hB : BM B m) (hB2 : BR B x) (hB1 : 1 ≤ B) (hBB : 200 * B ≤ 68000000000) : Calls Tryz.prog 49 #[u, v] w (V2Out X w (appL m x)) := by
  obtain ⟨hsh, h96, hc96, _, _⟩ := formedB_shp hf
  have hfo := rformed QV.mono X w u m hu (by omega)
  rw [hf] at hfo
  have hcol := hid (fun w' (h : Ext w w') => rcolumns X w' u m (mkx MV.mono hu h))
  obtain ⟨ua, uca, rfl, huca, hua⟩ := hu
  obtain ⟨va, vca, rfl, hvca, hva⟩ := hv
  have hhu := hua.hd
  obtain ⟨c, hce⟩ : ∃ c, colsL m = c := ⟨_, rfl⟩
  rw [hce] at hcol hc hc96 hsh
  have hne : ((x.length : Int) != (c : Int)) = false := bneF (by omega)
  have hsh' := hid hsh
  have hcc := hid hc
  have hB' := hid hB
  have hB2' := hid hB2
  obtain ⟨n, hn⟩ : ∃ n, m.length = n := ⟨_, rfl⟩
  rw [hn] at hfo hcol huca hhu h96 ⊢
  have hnn := hid hn
  have hal : Hid ((appL m x).length = n) := hid (by rw [appL_len]; exact hn)
  clear hf hsh hn hc hce hB hB2
  go_enter Tryz.func49, Tryz.ntmps49
  go_wp2_with fail
  refine hfo.mono ?_
  rintro e w1 ⟨hE1, rfl⟩
  have hcr := hcol.out w1 hE1
  go_wp2_with fail
  refine hcr.mono ?_
  rintro e w2 ⟨rfl, rfl⟩
  go_wp2_with fail
  go_loopw [6, 7] (fun o k wr => ∃ (i : Nat) (oo : Option Addr) (co : Nat), k = .int .i64 i ∧ o = .slice oo i co ∧ i ≤ n ∧ OL QC 3 X w.heap.size 31 wr oo co ((appL m x).take i) ∧ Ext w wr) (fun _ k _ => n - (intOf k).toNat)
  case atStart => exact ⟨0, none, 0, rfl, rfl, Nat.zero_le _, OL.nil _ _ _ _ _ _, hE1⟩
  case round =>
    obtain ⟨i, oo, co, rfl, rfl, hi, hO, hE⟩ := hrel
    have hXr : HX X wr := hX.ext hE
    have hXu : HX (un X oo) wr := hO.unX hXr
    have hbase := hE.size
    by_cases hlt : i < n
    · have him : i < m.length := by rw [hnn.out]; exact hlt
      have hiA : i < (appL m x).length := by rw [hal.out]; exact hlt
      have hsr : Sl RV 1 (mk (un X oo) wr) ua m := hua.old RV.mono hE (fun j hj => hO.ob_lt hj)
      have hvr : RV (mk (un X oo) wr) (.slice va x.length vca) x := old_un RV.mono ⟨va, vca, rfl, hvca, hva⟩ hE (fun j hj => hO.ob_lt hj)
      have htk := hid (take_snoc (appL m x) i hiA)
      have hln := hid (len_take (l := appL m x) (i := i) (by omega))
      obtain ⟨a1, c1, hX1, hc1, hcl1, hq1⟩ := hsr.row i him
      have k00 := hc1.out noY wr (ExtX.refl _) rfl
      have hrl := hid (hsh'.out.2 m[i] (List.getElem_mem _))
      have hge := hid (appL_getElem (v := x) him hiA)
      have hdb := dot_bounds (hB'.out m[i] (List.getElem_mem _)) hB2'.out hB1 (by rw [hrl.out]; exact hc96) hBB
      have hdot := rdot_any (un X oo) wr _ _ m[i] x hXu ⟨a1, c1, rfl, hcl1, hq1⟩ hvr (by rw [hrl.out]; omega) (by rw [hrl.out, hcc.out]) hdb.1 hdb.2
      rw [← hge.out] at hdot
      obtain ⟨v, hv⟩ : ∃ v, (appL m x)[i] = v := ⟨_, rfl⟩
      rw [hv] at hdot htk
      clear hv hc1 hdb
      go_wp2_with (with_reducible refine up_ix1 slRats (by omega) (by assumption) ?_)
      refine hdot.mono ?_
      rintro e w6 ⟨hE6, u6, rfl, hu6⟩
      obtain ⟨s6, a6, n6, c6, d6, k6, e6, rfl⟩ := hu6.shape
      have hO6 := hO.ext0 QC.elem hE6
      have hb6 := hE6.size
      clear k00
      go_wp2_with (at_builtin; refine st_append1n (l := (appL m x).take i) slRat rfl QC.elem (by omega) (hXr.ext hE6) i hln.out rfl rfl hO6 (.agg #[.bool s6, .slice a6 n6 c6, .slice d6 k6 e6]) v rfl hu6 (by omega) (by omega) ?_; intro oo2 co2 w7 hO7 hE7 hor)
      have hE8 := (hE.trans hE6).own hO6 (Nat.le_refl _) hE7
      rw [htk.out] at hO7
      go_roundw
      case rel => exact ⟨i + 1, oo2, co2, by go_num, by go_num, by omega, hO7, hE8⟩
      case measure => simp [intOf]; omega
    · have hil : i = n := by omega
      subst hil
      rw [List.take_of_length_le (by rw [hal.out]; exact Nat.le_refl _)] at hO
      have hc := hO.lenCap
      have hs := hO.sl QC.elem
      go_wp2_with fail
      go_ret2
      exact ⟨hE, _, rfl, oo, co, by rw [hal.out]; rfl, hc, hs⟩
end Go.Proofs.YtjbhcniiioepgaaGreat


namespace Go.Lin
theorem mulL_at {b : Mat} {n c j : Nat} {x : List Rat} (hx : x.length = n) (hT : j < (trL b n c).length) (h : j < (appL (trL b n c) x).length) : (appL (trL b n c) x)[j] = dotL x (trL b n c)[j] := by
  rw [appL_getElem hT h]
  unfold dotL
  rw [(trL_shp b n c).2 _ (List.getElem_mem _), hx, dotN_comm]
end Go.Lin
namespace Go.Proofs.YtjbhcniiioepgaaGreat
open Go.RowKit Go.Rep Go.Lim Go.Lin

theorem rmul_no1 (X : Nat → Bool) (w : World) (u v : Value) (a : List (List Rat)) (hu : MV (mk X w) u a) (hl : a.length ≤ 1099511627776) (hf : formedB a = false) : Calls Tryz.prog 47 #[u, v] w (fun e w' => Ext w w' ∧ e = .returned (.tuple #[.slice none 0 0, .int .i64 6])) := by
  have hfo := rformed QV.mono X w u a hu hl
  rw [hf] at hfo
  clear hf
  go_enter Tryz.func47, Tryz.ntmps47
  go_wp2_with fail
  refine hfo.mono ?_
  rintro e w1 ⟨hE1, rfl⟩
  go_wp2_with fail
  go_ret2
  exact ⟨hE1, rfl⟩
theorem rmul_no2 (X : Nat → Bool) (w : World) (u v : Value) (a b : List (List Rat)) (hu : MV (mk X w) u a) (hv : MV (mk X w) v b) (hl : b.length ≤ 1099511627776) (hf : formedB a = true) (hf2 : formedB b = false) : Calls Tryz.prog 47 #[u, v] w (fun e w' => Ext w w' ∧ e = .returned (.tuple #[.slice none 0 0, .int .i64 6])) := by
  have h96 := (formedB_shp hf).2.1
  have hfo := rformed QV.mono X w u a hu (by omega)
  rw [hf] at hfo
  have hfo2 := hid (fun w' (h : Ext w w') => rformed QV.mono X w' v b (mkx MV.mono hv h) hl)
  rw [hf2] at hfo2
  clear hf hf2
  go_enter Tryz.func47, Tryz.ntmps47
  go_wp2_with fail
  refine hfo.mono ?_
  rintro e w1 ⟨hE1, rfl⟩
  have h2 := hfo2.out w1 hE1
  go_wp2_with fail
  refine h2.mono ?_
  rintro e w2 ⟨hE2, rfl⟩
  go_wp2_with fail
  go_ret2
  exact ⟨hE1.trans hE2, rfl⟩
theorem rmul_no3 (X : Nat → Bool) (w : World) (u v : Value) (a b : List (List Rat)) (hu : MV (mk X w) u a) (hv : MV (mk X w) v b) (hf : formedB a = true) (hf2 : formedB b = true) (hc : colsL a ≠ b.length) : Calls Tryz.prog 47 #[u, v] w (fun e w' => Ext w w' ∧ e = .returned (.tuple #[.slice none 0 0, .int .i64 6])) := by
  have h96 := (formedB_shp hf).2.1
  have hc96 := (formedB_shp hf).2.2.1
  have hb96 := (formedB_shp hf2).2.1
  have hfo := rformed QV.mono X w u a hu (by omega)
  rw [hf] at hfo
  have hfo2 := hid (fun w' (h : Ext w w') => rformed QV.mono X w' v b (mkx MV.mono hv h) (by omega))
  rw [hf2] at hfo2
  have hcol := hid (fun w' (h : Ext w w') => rcolumns X w' u a (mkx MV.mono hu h))
  obtain ⟨va, vca, rfl, hvca, hva⟩ := hv
  obtain ⟨c, hce⟩ : ∃ c, colsL a = c := ⟨_, rfl⟩
  obtain ⟨l, hle⟩ : ∃ l, b.length = l := ⟨_, rfl⟩
  rw [hce] at hcol hc hc96
  rw [hle] at hc hfo2 hb96 ⊢
  have hne : ((c : Int) != (l : Int)) = true := bneT (by omega)
  clear hf hf2 hce hle hva hc hvca
  go_enter Tryz.func47, Tryz.ntmps47
  go_wp2_with fail
  refine hfo.mono ?_
  rintro e w1 ⟨hE1, rfl⟩
  have h2 := hfo2.out w1 hE1
  go_wp2_with fail
  refine h2.mono ?_
  rintro e w2 ⟨hE2, rfl⟩
  have hE12 := hE1.trans hE2
  have h3 := hcol.out w2 hE12
  go_wp2_with fail
  refine h3.mono ?_
  rintro e w3 ⟨rfl, rfl⟩
  go_wp2_with fail
  go_ret2
  exact ⟨hE12, rfl⟩

set_option maxRecDepth 100000 in
set_option maxHeartbeats 800000 in
theorem rmul_ok (X : Nat → Bool) (w : World) (u v : Value) (a b : List (List Rat)) (k n c B : Nat) (hX : HX X w) (hu : MV (mk X w) u a) (hv : MV (mk X w) v b) (hfa : formedB a = true) (hfb : formedB b = true) (ha : a.length = k) (hb : b.length = n) (hca : colsL a = n) (hcb : colsL b = c) (hB : BM B a) (hB2 : BM B b) (hB1 : 1 ≤ B) (hBB : 200 * B ≤ 68000000000) : Calls Tryz.prog 47 #[u, v] w (M2Out X w (mulL a b n c)) := by
  obtain ⟨hsa, ha96, hna96, hposa, hza⟩ := formedB_shp hfa
  obtain ⟨hsb, hb96, hcb96, hposb, hzb⟩ := formedB_shp hfb
  rw [ha, hca] at hsa
  rw [ha] at ha96
  rw [hb] at hb96
  rw [hca] at hna96
  rw [hcb] at hcb96
  have hfo := rformed QV.mono X w u a hu (by omega)
  rw [hfa] at hfo
  have hfo2 := hid (fun w' (h : Ext w w') => rformed QV.mono X w' v b (mkx MV.mono hv h) (by omega))
  rw [hfb] at hfo2
  have hcol := hid (fun w' (h : Ext w w') => rcolumns X w' u a (mkx MV.mono hu h))
  rw [hca] at hcol
  have htr := hid (fun w' (h : Ext w w') => rtranspose_ok X w' v b n c (hX.ext h) (mkx MV.mono hv h) hfb hb hcb)
  have htb := hid (hb_bm (trL_hb (n := n) (c := c) (bm_hb hB2 hB1)))
  obtain ⟨M, hM⟩ : ∃ M, mulL a b n c = M := ⟨_, rfl⟩
  have hMl : Hid (M.length = k) := hid (by rw [← hM, mulL_len]; exact ha)
  have hMr : Hid (∀ i (hi : i < a.length) (h : i < M.length), M[i] = appL (trL b n c) a[i]) := hid fun i hi h => by subst hM; exact mulL_getElem hi h
  rw [hM]
  obtain ⟨T, hT⟩ : ∃ T, trL b n c = T := ⟨_, rfl⟩
  have hTl : Hid (T.length = c) := hid (by rw [← hT]; exact (trL_shp b n c).1)
  have hTr : Hid (∀ j (hj : j < T.length), T[j].length = n) := hid fun j hj => by subst hT; exact (trL_shp b n c).2 _ (List.getElem_mem _)
  have hRj : Hid (∀ x : List Rat, x.length = n → ∀ j (hj : j < T.length) (h : j < (appL T x).length), (appL T x)[j] = dotL x T[j]) := hid fun x hx j hj h => by subst hT; exact mulL_at hx hj h
  rw [hT] at htr htb hMr
  obtain ⟨ua, uca, rfl, huca, hua⟩ := hu
  obtain ⟨va, vca, rfl, hvca, hva⟩ := hv
  have hhu := hua.hd
  have hsa' := hid hsa
  have hB' := hid hB
  have haa := hid ha
  rw [ha] at huca hhu hfo hcol ⊢
  rw [hb] at htr hvca hfo2 ⊢
  have hne : ((n : Int) != (n : Int)) = false := bneF rfl
  have hMl2 : M.length ≤ k := by rw [hMl.out]; exact Nat.le_refl _
  have hMl3 : k ≤ M.length := by rw [hMl.out]; exact Nat.le_refl _
  clear hfa hfb ha hb hca hcb hsa hsb hza hzb hposa hposb hva hB hB2 hM hT
  go_enter Tryz.func47, Tryz.ntmps47
  go_wp2_with fail
  refine hfo.mono ?_
  rintro e w1 ⟨hE1, rfl⟩
  have h2 := hfo2.out w1 hE1
  go_wp2_with fail
  refine h2.mono ?_
  rintro e w2 ⟨hE2, rfl⟩
  have hE12 := hE1.trans hE2
  have h3 := hcol.out w2 hE12
  go_wp2_with fail
  refine h3.mono ?_
  rintro e w3 ⟨rfl, rfl⟩
  have h4 := htr.out w3 hE12
  go_wp2_with fail
  refine h4.mono ?_
  rintro e w4 ⟨hE4, ut, rfl, ta, tc, rfl, htc, hta⟩
  have hE04 := hE12.trans hE4
  have hX4 := hX.ext hE04
  have hua4 := hua.mono RV.mono (mk_ext hE04)
  have hht := hta.hd
  rw [hTl.out] at htc hht ⊢
  clear hfo h2 h3 h4
  go_wp2_with fail
  go_loopw [8, 9] (fun o kk wr => ∃ (i : Nat) (oo : Option Addr) (co : Nat), kk = .int .i64 i ∧ o = .slice oo i co ∧ i ≤ k ∧ OL RC 1 X w4.heap.size 33 wr oo co (M.take i) ∧ Ext w4 wr) (fun _ kk _ => k - (intOf kk).toNat)
  case atStart => exact ⟨0, none, 0, rfl, rfl, Nat.zero_le _, OL.nil _ _ _ _ _ _, ExtX.refl _⟩
  case round =>
    obtain ⟨i, oo, co, rfl, rfl, hi, hO, hE⟩ := hrel
    have hXr : HX X wr := hX4.ext hE
    have hXu : HX (un X oo) wr := hO.unX hXr
    have hbase := hE.size
    by_cases hlt : i < k
    · have him : i < a.length := by rw [haa.out]; exact hlt
      have hltM : i < M.length := by omega
      have htk := hid (take_snoc M i hltM)
      have hln := hid (len_take (l := M) (i := i) (by omega))
      have hrl : Hid (a[i].length = n) := hid (hsa'.out.2 a[i] (List.getElem_mem _))
      obtain ⟨R, hR⟩ : ∃ R, M[i] = R := ⟨_, rfl⟩
      have hRd := hMr.out i him hltM
      rw [hR] at hRd htk
      have hRl : Hid (R.length = c) := hid (by rw [hRd, appL_len]; exact hTl.out)
      have hRi : Hid (∀ j (hj : j < T.length) (h : j < R.length), R[j] = dotL a[i] T[j]) := hid fun j hj h => by subst hRd; exact hRj.out _ hrl.out j hj h
      have hRl2 : R.length ≤ c := by rw [hRl.out]; exact Nat.le_refl _
      have hRl3 : c ≤ R.length := by rw [hRl.out]; exact Nat.le_refl _
      clear hRd hR
      obtain ⟨wo, hwo⟩ : ∃ wo, wo = wr := ⟨_, rfl⟩
      subst hwo
      go_wp2_with fail
      go_loopw [10, 11] (fun o cc wx => ∃ (j : Nat) (ro : Option Addr) (cr : Nat), cc = .int .i64 j ∧ o = .slice ro j cr ∧ j ≤ c ∧ OL QC 3 (un X oo) wo.heap.size 31 wx ro cr (R.take j) ∧ Ext wo wx) (fun _ cc _ => c - (intOf cc).toNat)
      case atStart => exact ⟨0, none, 0, rfl, rfl, Nat.zero_le _, OL.nil _ _ _ _ _ _, ExtX.refl _⟩
      case round =>
        obtain ⟨j, ro, cr, rfl, rfl, hj, hOr, hEr⟩ := hrel
        have hXx : HX (un X oo) wr := hXu.ext hEr
        have hXy : HX (un (un X oo) ro) wr := hOr.unX hXx
        have hbr := hEr.size
        by_cases hlj : j < c
        · have hjT : j < T.length := by rw [hTl.out]; exact hlj
          have hljR : j < R.length := by omega
          have htj := hid (take_snoc R j hljR)
          have hlnj := hid (len_take (l := R) (i := j) (by omega))
          have hge := hRi.out j hjT hljR
          rw [hge] at htj
          have hsr : Sl RV 1 (mk (un (un X oo) ro) wr) ua a := (hua4.old RV.mono hE (fun j hj => hO.ob_lt hj)).old RV.mono hEr (fun j hj => hOr.ob_lt hj)
          have hst : Sl RC 1 (mk (un (un X oo) ro) wr) ta T := (hta.old RC.mono hE (fun j hj => hO.ob_lt hj)).old RC.mono hEr (fun j hj => hOr.ob_lt hj)
          obtain ⟨a1, c1, hX1, hc1, hcl1, hq1⟩ := hsr.row i him
          obtain ⟨a2, c2, hX2, hc2, hcl2, hq2⟩ := hst.row j hjT
          have htl2 := hid (hTr.out j hjT)
          have hBi := hB'.out a[i] (List.getElem_mem _)
          have hBt := htb.out T[j] (List.getElem_mem _)
          have hdb := dot_bounds hBi hBt hB1 (by rw [hrl.out]; exact hna96) hBB
          have hq2v := hq2.qv (fun q hq => Nat.le_trans (hBt q hq) (by omega))
          have hEd : Ext wr wr.drew := (ExtX.refl wr).drew
          have hdot := rdot_any (un (un X oo) ro) wr.drew _ _ a[i] T[j] hXy ⟨a1, c1, rfl, hcl1, hq1⟩ ⟨a2, c2, rfl, hcl2, hq2v⟩ (by rw [hrl.out]; omega) (by rw [hrl.out, htl2.out]) hdb.1 hdb.2
          obtain ⟨v, hv⟩ : ∃ v, dotL a[i] T[j] = v := ⟨_, rfl⟩
          rw [hv] at hdot htj
          rw [hrl.out, htl2.out] at hdot
          have hob1 : ob ro (adr ua i).block = false := (un_false hX1).2
          have hob2 : ob ro (adr ta j).block = false := (un_false hX2).2
          rw [hrl.out] at hc1
          rw [htl2.out] at hc2
          have hS : Hid (∀ Y W', ExtX Y wr.drew W' → Y (adr ua i).block = false → Y (adr ta j).block = false → W'.cell? (adr ua i) = some (.slice a1 n c1) ∧ W'.cell? (adr ta j) = some (.slice a2 n c2)) := hid fun Y W' h hg hb => ⟨hc1.out Y W' ((ExtX.of hEd).trans h) hg, hc2.out Y W' ((ExtX.of hEd).trans h) hb⟩
          obtain ⟨k00, k10⟩ := hS.out noY wr.drew (ExtX.refl _) rfl rfl
          have i1 : ∀ W, (Instr.indexAt 23 (.slice ua k uca) (.int .i64 (i : Int))).run Tryz.prog W = .ok (.pointer (some (adr ua i))) W := run_ix1 slRats ua k uca .i64 i hhu (by omega) rfl
          have i2 : ∀ W, (Instr.indexAt 23 (.slice ta c tc) (.int .i64 (j : Int))).run Tryz.prog W = .ok (.pointer (some (adr ta j))) W := run_ix1 slRats ta c tc .i64 j hht (by omega) rfl
          clear hv hc1 hc2 hge hdb hq1 hq2 hq2v
          go_wp2_with fail
          go_region_held3 (fun w' => w'.cell? (adr ua i) = some (.slice a1 n c1) ∧ w'.cell? (adr ta j) = some (.slice a2 n c2))
            (first | exact hS.out noY _ t1 rfl rfl | exact hS.out noY _ (ExtX.alloc t1 _) rfl rfl | exact hS.out (ob ro) _ ((ExtX.of t1).trans hE7) hob1 hob2 | go_keep)
            (first | (go_at_call 106; (with_reducible refine hdot.mono ?_); rintro ee w6 ⟨t1, u6, rfl, hu6⟩; obtain ⟨s6, a6, n6, c6, d6, k6, e6, rfl⟩ := hu6.shape; have hO6 := hOr.ext0 QC.elem (hEd.trans t1); have hb6 := (hEd.trans t1).size; have hX6 := hXx.ext (hEd.trans t1)) | (refine step_append1 (l := R.take j) rfl (by rfl) slRat rfl QC.elem (by omega) hX6 j hlnj.out rfl rfl hO6 (.agg #[.bool s6, .slice a6 n6 c6, .slice d6 k6 e6]) v rfl hu6 (by omega) (by omega) ?_; intro oo2 co2 w7 hO7 hE7 hor))
          have hE8 := (hEr.trans (hEd.trans t1)).own hO6 (Nat.le_refl _) hE7
          rw [htj.out] at hO7
          clear k00 k10 i1 i2
          go_wp2_with fail
          go_roundw
          case rel => exact ⟨j + 1, oo2, co2, by go_num, by go_num, by omega, hO7, hE8⟩
          case measure => simp [intOf]; omega
        · have hjc : j = c := by omega
          subst hjc
          rw [List.take_of_length_le (by omega)] at hOr
          have hcr := hOr.lenCap
          have hsR := hOr.sl QC.elem
          have hO6 := hO.ext0 RC.elem hEr
          have hRC : RC (mk (un X oo) wr) (.slice ro j cr) R := ⟨ro, cr, by rw [hRl.out], hcr, hsR⟩
          go_wp2_with (at_builtin; refine st_append1n (l := M.take i) slRats rfl RC.elem (by omega) (hXr.ext hEr) i hln.out rfl rfl hO6 (.slice ro j cr) R rfl hRC (by omega) (by omega) ?_; intro oo2 co2 w7 hO7 hE7 hor)
          have hE8 := (hE.trans hEr).own hO6 (Nat.le_refl _) hE7
          rw [htk.out] at hO7
          go_roundw
          case rel => exact ⟨i + 1, oo2, co2, by go_num, by go_num, by omega, hO7, hE8⟩
          case measure => simp [intOf]; omega
    · have hil : i = k := by omega
      subst hil
      rw [List.take_of_length_le (by omega)] at hO
      have hc := hO.lenCap
      have hs := hO.sl RC.elem
      go_wp2_with fail
      go_ret2
      exact ⟨hE04.trans hE, _, rfl, oo, co, by rw [hMl.out]; rfl, hc, hs⟩
end Go.Proofs.YtjbhcniiioepgaaGreat


namespace Go.Rep
open Go.RowKit Go.Lim
/-- What is hidden beside the pivots: X and the factor's block. -/
abbrev hidF (X : Nat → Bool) (fb : Nat) : Nat → Bool := un X (some ⟨fb, 0, none⟩)
/-- All that is hidden. -/
abbrev hidZ (X : Nat → Bool) (fb : Nat) (po oo : Option Addr) : Nat → Bool := un (un (hidF X fb) po) oo
structure RS (X : Nat → Bool) (w0 : World) (b fb base : Nat) (T1 T2 T3 : TypeId) (w : World) (oo : Option Addr) (co : Nat) (po : Option Addr) (pc : Nat) (M : List (List Rat)) (p : List Nat) (f : Rat) : Prop where
  rows : OL RC 1 (un (hidF X fb) po) base T1 w oo co M
  piv : OL (NatIn .i64) 1 (un (hidF X fb) oo) base T3 w po pc p
  fac : ∃ s a n c d k e, Bx w fb #[.bool s, .slice a n c, .slice d k e] T2 ∧ QC (mk (hidZ X fb po oo) w) (.agg #[.bool s, .slice a n c, .slice d k e]) f
  hx : HX X w
  res : Bx w b #[.bool false, .slice none 0 0, .slice none 0 0] T2
  rb : X b = true
  fb0 : fb ≠ b
  ext : Ext w0 w
  low : w0.heap.size ≤ base
  lowf : w0.heap.size ≤ fb
section
variable {X : Nat → Bool} {w0 w w' : World} {b fb base : Nat} {T1 T2 T3 : TypeId} {oo po : Option Addr} {co pc : Nat} {M M' : List (List Rat)} {p : List Nat} {f f' : Rat}
theorem RS.pF (h : RS X w0 b fb base T1 T2 T3 w oo co po pc M p f) : ob po fb = false := by
  cases hb : ob po fb
  · rfl
  · have := h.piv.1 fb hb; rw [un_left (un_right (ob_self fb))] at this; simp at this
theorem RS.pB (h : RS X w0 b fb base T1 T2 T3 w oo co po pc M p f) : ob po b = false := by
  cases hb : ob po b
  · rfl
  · have := h.piv.1 b hb; rw [un_left (un_left h.rb)] at this; simp at this
theorem RS.flt (h : RS X w0 b fb base T1 T2 T3 w oo co po pc M p f) : fb < w.heap.size := by
  obtain ⟨_, _, _, _, _, _, _, h1, _⟩ := h.fac; exact h1.lt
/-- All that is hidden is there. -/
theorem RS.hz (h : RS X w0 b fb base T1 T2 T3 w oo co po pc M p f) : HX (hidZ X fb po oo) w := fun k hk => by
  by_cases h1 : ob oo k = true
  · exact (h.rows.block h1).2
  · by_cases h2 : ob po k = true
    · exact (h.piv.block h2).2
    · by_cases h3 : X k = true
      · exact h.hx k h3
      · have h1' : ob oo k = false := by simpa using h1
        have h2' : ob po k = false := by simpa using h2
        have h3' : X k = false := by simpa using h3
        have h4 : ob (some ⟨fb, 0, none⟩) k = true := by simpa [hidZ, hidF, un, h1', h2', h3'] using hk
        have : fb = k := by simpa [ob] using h4
        rw [← this]; exact h.flt
/-- Its rows, read outside of all of it. -/
theorem RS.row (h : RS X w0 b fb base T1 T2 T3 w oo co po pc M p f) (i : Nat) (hi : i < M.length) : ∃ a c, w.cell? (adr oo i) = some (.slice a M[i].length c) ∧ w.frozen? (adr oo i) = false ∧ M[i].length ≤ c ∧ Sl QC 3 (_root_.Go.Rep.mk (hidZ X fb po oo) w) a M[i] := by
  obtain ⟨u, h1, h2, a, c, rfl, h4, h5⟩ := h.rows.cell SlV.one i hi
  exact ⟨a, c, h1, h2, h4, h5⟩
theorem RS.ext0 (h : RS X w0 b fb base T1 T2 T3 w oo co po pc M p f) (hE : Ext w w') : RS X w0 b fb base T1 T2 T3 w' oo co po pc M p f := by
  obtain ⟨s, a, n, c, d, k, e, h1, h2⟩ := h.fac
  exact ⟨h.rows.ext0 RC.elem hE, h.piv.ext0 (NatIn.elem _) hE, ⟨s, a, n, c, d, k, e, h1.ext0 hE, mkx QC.mono h2 hE⟩, h.hx.ext hE, h.res.ext0 hE, h.rb, h.fb0, h.ext.trans hE, h.low, h.lowf⟩
/-- A pivot was appended. -/
theorem RS.push (h : RS X w0 b fb base T1 T2 T3 w oo co po pc M p f) {po2 : Option Addr} {pc2 j : Nat} (hE : ExtX (ob po) w w') (hP : OL (NatIn .i64) 1 (un (hidF X fb) oo) base T3 w' po2 pc2 (p ++ [j])) (hor : po2 = po ∨ ∃ g, po2 = some ⟨g, 0, none⟩ ∧ w.heap.size ≤ g) : RS X w0 b fb base T1 T2 T3 w' oo co po2 pc2 M (p ++ [j]) f := by
  obtain ⟨s, a, n, c, d, k, e, h1, h2⟩ := h.fac
  have hold : ∀ k, k < w.heap.size → ob po2 k = true → ob po k = true := fun k hk h9 => by
    rcases hor with rfl | ⟨g, rfl, hg⟩
    · exact h9
    · have : g = k := by simpa [ob] using h9
      omega
  have hF : ∀ k, k < w.heap.size → un (hidF X fb) po2 k = true → un (hidF X fb) po k = true := fun k hk hz => by
    by_cases hx : hidF X fb k = true
    · exact un_left hx
    · exact un_right (hold k hk (by simpa [un, hx] using hz))
  refine ⟨h.rows.ext RC.elem hE (fun k _ hk => un_right hk) hF, hP, ⟨s, a, n, c, d, k, e, h1.ext hE h.pF, QC.mono _ _ _ _ (mk_over hE (fun k _ hk => un_left (un_right hk)) fun k hk hz => ?_) h2⟩, h.hx.ext hE, h.res.ext hE h.pB, h.rb, h.fb0, h.ext.own h.piv h.low hE, h.low, h.lowf⟩
  by_cases ho : ob oo k = true
  · exact un_right ho
  · exact un_left (hF k hk (by simpa [un, ho] using hz))
end
end Go.Rep


namespace Go.Lin
open Go.Lim
/-- Bounds that the reference's elimination keeps. -/
def TameR (m : Mat) (c : Nat) : Prop := ∃ B, 6 * B ≤ 68719476736 ∧ ∀ j, j ≤ c → HB B (rN m j).1 ∧ hq (rN m j).2.2 ≤ B
end Go.Lin
namespace Go.Rep
open Go.RowKit
section
variable {P : Program} {w : World}
end
end Go.Rep


namespace Go
section
variable {P : Program} {ops : Array Oper} {Q : Exit → Act → World → Prop} {md : Region.Mode} {S : World → Prop} {n : Nat}
end
end Go


namespace Go.Proofs.YtjbhcniiioepgaaGreat
open Go.RowKit Go.Rep Go.Lim Go.Lin
attribute [local go_sem ↓] Go.wp_at_zero Go.wp_at_succ

end Go.Proofs.YtjbhcniiioepgaaGreat


namespace Go.Lin
open Go.Lim
end Go.Lin
namespace Go.Proofs.YtjbhcniiioepgaaGreat
open Go.RowKit Go.Rep Go.Lim Go.Lin

end Go.Proofs.YtjbhcniiioepgaaGreat


namespace Go.Lin
open Go.Lim
end Go.Lin
namespace Go.Proofs.YtjbhcniiioepgaaGreat
open Go.RowKit Go.Rep Go.Lim Go.Lin

end Go.Proofs.YtjbhcniiioepgaaGreat


namespace Go.Lin
open Go.Lim
end Go.Lin
namespace Go.Proofs.YtjbhcniiioepgaaGreat
open Go.RowKit Go.Rep Go.Lim Go.Lin

end Go.Proofs.YtjbhcniiioepgaaGreat


namespace Go.Proofs.YtjbhcniiioepgaaGreat
open Go.RowKit Go.Rep Go.Lim Go.Lin

end Go.Proofs.YtjbhcniiioepgaaGreat


namespace Go.Lin
open Go.Lim
theorem TameR.le {m : Mat} {c c' : Nat} (h : TameR m c) (hc : c' ≤ c) : TameR m c' := let ⟨B, h1, h2⟩ := h; ⟨B, h1, fun j hj => h2 j (Nat.le_trans hj hc)⟩
end Go.Lin
namespace Go.Proofs.YtjbhcniiioepgaaGreat
open Go.RowKit Go.Rep Go.Lim Go.Lin

end Go.Proofs.YtjbhcniiioepgaaGreat


namespace Go.Lin
open Go.Lim
end Go.Lin
namespace Go.Proofs.YtjbhcniiioepgaaGreat
open Go.RowKit Go.Rep Go.Lim Go.Lin

end Go.Proofs.YtjbhcniiioepgaaGreat


namespace Go.Lin
open Go.Lim
end Go.Lin


namespace Go.Lin
open Go.Lim
/-- Numbers that both sides can compare. -/
def OkM (x : Mat) : Prop := Go.Rep.BM 68719476736 x ∧ x.length ≤ 1099511627776 ∧ ∀ r ∈ x, r.length ≤ 1099511627776
def OkR (x : List Rat) : Prop := Go.Rep.BR 68719476736 x ∧ x.length ≤ 1099511627776
theorem OkM.nil : OkM [] := ⟨fun r hr => by simp at hr, Nat.zero_le _, fun r hr => by simp at hr⟩
theorem OkR.nil : OkR [] := ⟨fun r hr => by simp at hr, Nat.zero_le _⟩
theorem OkM.of {n c B : Nat} {x : Mat} (h : Shp n c x) (hB : Go.Rep.BM B x) (hBB : B ≤ 68719476736) (hn : n ≤ 1099511627776) (hc : c ≤ 1099511627776) : OkM x :=
  ⟨fun r hr q hq => Nat.le_trans (hB r hr q hq) hBB, by rw [h.1]; exact hn, fun r hr => by rw [h.2 r hr]; exact hc⟩
end Go.Lin
namespace Go.Proofs.YtjbhcniiioepgaaGreat
open Go.RowKit Go.Rep Go.Lim Go.Lin

/-- A result, and an error's number. -/
def E2 {α : Type} (w : World) (R : Mem → Value → α → Prop) (x : α) (c : Int) (e : Ending) (w' : World) : Prop := Ext w w' ∧ ∃ u, e = .returned (.tuple #[u, .int .i64 c]) ∧ R (mk noY w') u x
theorem e2_nil {α : Type} {R : Mem → Value → α → Prop} {sz : Nat} {w w' : World} {e : Ending} (h : Ext w w') {c : Int} (he : e = .returned (.tuple #[.slice none 0 0, .int .i64 c])) : E2 w (SlV R sz) [] c e w' := ⟨h, _, he, SlV.zero _ _ _⟩
theorem e2_nil' {α : Type} {R : Mem → Value → α → Prop} {sz : Nat} {w w' : World} {e : Ending} (h : w' = w) {c : Int} (he : e = .returned (.tuple #[.slice none 0 0, .int .i64 c])) : E2 w (SlV R sz) [] c e w' := by subst h; exact e2_nil (ExtX.refl _) he

theorem pair_tr (m : Mat) (B : Nat) (hl : m.length ≤ 1000) (hB : BM B m) (hB1 : 1 ≤ B) (hBB : B ≤ 68719476736) : ∃ x c, (∀ w u, MV (mk noY w) u m → Calls Tryz.prog 44 #[u] w (E2 w MC x c)) ∧ (∀ w u, MV (mk noY w) u m → Calls Tryz.prog 45 #[u] w (E2 w MC x c)) ∧ OkM x := by
  cases hf : formedB m
  · exact ⟨[], 6, fun w u hu => (transpose_no noY w u m hu (by omega) hf).mono fun e w' ⟨h1, h2⟩ => e2_nil' h1 h2, fun w u hu => (rtranspose_no noY w u m hu (by omega) hf).mono fun e w' ⟨h1, h2⟩ => e2_nil h1 h2, OkM.nil⟩
  · have hs := formedB_shp hf
    exact ⟨trL m m.length (colsL m), 0, fun w u hu => transpose_ok noY w u m _ _ (HX.none _) hu hf rfl rfl, fun w u hu => rtranspose_ok noY w u m _ _ (HX.none _) hu hf rfl rfl, OkM.of (trL_shp _ _ _) (hb_bm (trL_hb (bm_hb hB hB1))) hBB (by omega) (by omega)⟩

theorem pair_mul (a b : Mat) (B : Nat) (hla : a.length ≤ 1000) (hlb : b.length ≤ 1000) (hB : BM B a) (hB2 : BM B b) (hB1 : 1 ≤ B) (hBB : 200 * B ≤ 68000000000) : ∃ x c, (∀ w u v, MV (mk noY w) u a → MV (mk noY w) v b → Calls Tryz.prog 46 #[u, v] w (E2 w MC x c)) ∧ (∀ w u v, MV (mk noY w) u a → MV (mk noY w) v b → Calls Tryz.prog 47 #[u, v] w (E2 w MC x c)) ∧ OkM x := by
  cases hf : formedB a
  · exact ⟨[], 6, fun w u v hu hv => (mul_no1 noY w u v a b (HX.none _) hu hv (by omega) (by omega) hf).mono fun e w' ⟨h1, h2⟩ => e2_nil h1 h2, fun w u v hu hv => (rmul_no1 noY w u v a hu (by omega) hf).mono fun e w' ⟨h1, h2⟩ => e2_nil h1 h2, OkM.nil⟩
  · cases hf2 : formedB b
    · exact ⟨[], 6, fun w u v hu hv => (mul_no2 noY w u v a b (HX.none _) hu hv (by omega) (by omega) hf hf2).mono fun e w' ⟨h1, h2⟩ => e2_nil h1 h2, fun w u v hu hv => (rmul_no2 noY w u v a b hu hv (by omega) hf hf2).mono fun e w' ⟨h1, h2⟩ => e2_nil h1 h2, OkM.nil⟩
    · by_cases hc : colsL a = b.length
      · have hs := formedB_shp hf
        have hs2 := formedB_shp hf2
        refine ⟨mulL a b b.length (colsL b), 0, fun w u v hu hv => mul_ok noY w u v a b _ _ _ B (HX.none _) hu hv hf hf2 rfl rfl hc rfl hB hB2 hB1 hBB, fun w u v hu hv => rmul_ok noY w u v a b _ _ _ B (HX.none _) hu hv hf hf2 rfl rfl hc rfl hB hB2 hB1 hBB, OkM.of (mulL_shp rfl) (mulL_bm hB hB2 hB1) ?_ (by omega) (by omega)⟩
        have : b.length * (2 * B + 1) ≤ 96 * (2 * B + 1) := Nat.mul_le_mul_right _ (by omega)
        omega
      · exact ⟨[], 6, fun w u v hu hv => (mul_no3 noY w u v a b (HX.none _) hu hv hf hf2 hc).mono fun e w' ⟨h1, h2⟩ => e2_nil h1 h2, fun w u v hu hv => (rmul_no3 noY w u v a b hu hv hf hf2 hc).mono fun e w' ⟨h1, h2⟩ => e2_nil h1 h2, OkM.nil⟩

theorem pair_apply (m : Mat) (x : List Rat) (B : Nat) (hl : m.length ≤ 1000) (hx : x.length ≤ 1000) (hB : BM B m) (hB2 : BR B x) (hB1 : 1 ≤ B) (hBB : 200 * B ≤ 68000000000) : ∃ y c, (∀ w u v, MV (mk noY w) u m → RV (mk noY w) v x → Calls Tryz.prog 48 #[u, v] w (E2 w RC y c)) ∧ (∀ w u v, MV (mk noY w) u m → RV (mk noY w) v x → Calls Tryz.prog 49 #[u, v] w (E2 w RC y c)) ∧ OkR y := by
  cases hf : formedB m
  · exact ⟨[], 6, fun w u v hu hv => (apply_no noY w u v m hu (by omega) hf).mono fun e w' ⟨h1, h2⟩ => e2_nil' h1 h2, fun w u v hu hv => (rapply_no noY w u v m hu (by omega) hf).mono fun e w' ⟨h1, h2⟩ => e2_nil h1 h2, OkR.nil⟩
  · by_cases hc : x.length = colsL m
    · have hs := formedB_shp hf
      refine ⟨appL m x, 0, fun w u v hu hv => apply_ok noY w u v m x B (HX.none _) hu hv hf hc hB hB2 hB1 hBB, fun w u v hu hv => rapply_ok noY w u v m x B (HX.none _) hu hv hf hc hB hB2 hB1 hBB, fun q hq => ?_, by rw [appL_len]; omega⟩
      obtain ⟨r, hr, rfl⟩ := List.mem_map.1 hq
      have h1 := dotN_hq (hB r hr) hB2 hB1 r.length
      have h2 := hs.1.2 r hr
      have : r.length * (2 * B + 1) ≤ 96 * (2 * B + 1) := Nat.mul_le_mul_right _ (by omega)
      unfold dotL
      omega
    · exact ⟨[], 6, fun w u v hu hv => (apply_no2 noY w u v m x hu hv hf hc).mono fun e w' ⟨h1, h2⟩ => e2_nil' h1 h2, fun w u v hu hv => (rapply_no2 noY w u v m x hu hv hf hc (by omega)).mono fun e w' ⟨h1, h2⟩ => e2_nil h1 h2, OkR.nil⟩

end Go.Proofs.YtjbhcniiioepgaaGreat

