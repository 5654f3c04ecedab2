/- matrix: Apply, Mul. Conditions: few rows and columns, numbers of few digits. matrix: eliminate. Conditions: numbers of at most 2^36 digits. matrix: echelon's closure, slices.IndexFunc over it. Conditions: numbers of at most 2^36 digits. Rows exchanged, rows cleared: steps on matrices that a call has made itself. Conditions: none. -/
import Derived.Test.YtjbhcniiioepgaaGreatPrQ
namespace Go.Lin
open Go.Lim
theorem shpc {n c : Nat} {m : Mat} (h : Shp n c m) (hn : 1 ≤ n) : colsL m = c := by
  rw [colsL_pos (by rw [h.1]; exact hn)]; exact h.2 _ (List.getElem_mem _)
theorem shpf {n c : Nat} {m : Mat} (h : Shp n c m) (hn : n ≤ 96) (hc : 1 ≤ c) (hc2 : c ≤ 96) : formedB m = true := by
  refine formedB_true.2 ⟨by rw [h.1]; exact hn, fun i hi => ?_⟩
  have h1 := h.2 _ (List.getElem_mem hi)
  refine ⟨by omega, by omega, ?_⟩
  rw [h1, shpc h (by have := h.1; omega)]
theorem bm_hb {B : Nat} {m : Mat} (h : Go.Rep.BM B m) (hB : 1 ≤ B) : HB B m := fun i j => by
  unfold ent
  by_cases hi : i < m.length
  · have e : m.getD i [] = m[i] := by simp [List.getD_eq_getElem?_getD, hi]
    rw [e]
    by_cases hj : j < (m[i]).length
    · have := h m[i] (List.getElem_mem _) (m[i])[j] (List.getElem_mem _)
      simpa [List.getD_eq_getElem?_getD, hj] using this
    · rw [List.getD_eq_getElem?_getD, List.getElem?_eq_none (by omega)]
      show hq 0 ≤ B
      rw [hq_zero]; exact hB
  · rw [List.getD_eq_getElem?_getD (l := m), List.getElem?_eq_none (by omega)]
    show hq 0 ≤ B
    rw [hq_zero]; exact hB
theorem hb_bm {B : Nat} {m : Mat} (h : HB B m) : Go.Rep.BM B m := fun r hr q hq => by
  obtain ⟨i, hi, rfl⟩ := List.getElem_of_mem hr
  obtain ⟨j, hj, rfl⟩ := List.getElem_of_mem hq
  have := h i j
  simpa [ent, List.getD_eq_getElem?_getD, hi, hj] using this
theorem appL_getElem {m : Mat} {v : List Rat} {i : Nat} (hi : i < m.length) (h : i < (appL m v).length) : (appL m v)[i] = dotL m[i] v := by simp [appL]
theorem mulL_getElem {a b : Mat} {n c i : Nat} (hi : i < a.length) (h : i < (mulL a b n c).length) : (mulL a b n c)[i] = appL (trL b n c) a[i] := by simp [mulL]
theorem mulL_len (a b : Mat) (n c : Nat) : (mulL a b n c).length = a.length := by simp [mulL]
theorem br_getD {B : Nat} {x : List Rat} (hx : Go.Rep.BR B x) (hB : 1 ≤ B) (q : Nat) : hq (x.getD q 0) ≤ B := by
  by_cases h : q < x.length
  · rw [List.getD_eq_getElem?_getD, List.getElem?_eq_getElem h]; exact hx _ (List.getElem_mem h)
  · rw [List.getD_eq_getElem?_getD, List.getElem?_eq_none (by omega)]
    show hq 0 ≤ B
    rw [hq_zero]; exact hB
/-- Bounds that a dot product wants. -/
theorem dot_bounds {B : Nat} {l m : List Rat} (hl : Go.Rep.BR B l) (hm : Go.Rep.BR B m) (hB : 1 ≤ B) (hn : l.length ≤ 96) (hBB : 200 * B ≤ 68000000000) : (∀ k, k ≤ l.length → hq (dotN l m k) ≤ 68719476736) ∧ ∀ k, k < l.length → hq (l.getD k 0 * m.getD k 0) ≤ 68719476736 := by
  refine ⟨fun k hk => ?_, fun k hk => ?_⟩
  · have h1 := dotN_hq hl hm hB k
    have h2 : k * (2 * B + 1) ≤ 96 * (2 * B + 1) := Nat.mul_le_mul_right _ (by omega)
    omega
  · have h1 := hq_mul (l.getD k 0) (m.getD k 0)
    have h2 := br_getD hl hB k
    have h3 := br_getD hm hB k
    omega
end Go.Lin
namespace Go.Proofs.YtjbhcniiioepgaaGreat
open Go.RowKit Go.Rep Go.Lim Go.Lin

/-- A row and no error. -/
def V2Out (X : Nat → Bool) (w : World) (l : List Rat) (e : Ending) (w' : World) : Prop := Ext w w' ∧ ∃ u, e = .returned (.tuple #[u, .int .i64 0]) ∧ RC (mk X w') u l

set_option maxRecDepth 100000 in
theorem apply_ok (X : Nat → Bool) (w : World) (u v : Value) (m : List (List Rat)) (x : List Rat) (B : Nat) (hX : HX X w) (hu : MV (mk X w) u m) (hv : RV (mk X w) v x) (hf : formedB m = true) (hc : x.length = colsL m) (hB : BM B m) (hB2 : BR B x) (hB1 : 1 ≤ B) (hBB : 200 * B ≤ 68000000000) : Calls Tryz.prog 48 #[u, v] w (V2Out X w (appL m x)) := by
  obtain ⟨hsh, h96, hc96, _, _⟩ := formedB_shp hf
  have hfo := formed_any X w u m hu (by omega)
  rw [hf] at hfo
  have hcol := columns_any X w u m hu
  obtain ⟨ua, uca, rfl, huca, hua⟩ := hu
  obtain ⟨va, vca, rfl, hvca, hva⟩ := hv
  have hhu := hua.hd
  obtain ⟨c, hce⟩ : ∃ c, colsL m = c := ⟨_, rfl⟩
  rw [hce] at hcol hc hc96 hsh
  have hne : ((x.length : Int) != (c : Int)) = false := bneF (by omega)
  have hsh' := hid hsh
  have hcc := hid hc
  have hB' := hid hB
  have hB2' := hid hB2
  obtain ⟨n, hn⟩ : ∃ n, m.length = n := ⟨_, rfl⟩
  rw [hn] at hfo hcol huca hhu h96 ⊢
  have hnn := hid hn
  have hal : Hid ((appL m x).length = n) := hid (by rw [appL_len]; exact hn)
  clear hf hsh hn hc hce hB hB2
  go_enter Tryz.func48, Tryz.ntmps48
  go_wp2_with fail
  refine hfo.mono ?_
  rintro e w1 ⟨rfl, rfl⟩
  go_wp2_with fail
  refine hcol.mono ?_
  rintro e w2 ⟨rfl, rfl⟩
  go_wp2_with fail
  go_loopw [6, 21] (fun o k wr => ∃ (i : Nat) (oo : Option Addr) (co : Nat), k = .int .i64 i ∧ o = .slice oo i co ∧ i ≤ n ∧ OL QC 3 X w2.heap.size 31 wr oo co ((appL m x).take i) ∧ Ext w2 wr) (fun _ k _ => n - (intOf k).toNat)
  case atStart => exact ⟨0, none, 0, rfl, rfl, Nat.zero_le _, OL.nil _ _ _ _ _ _, ExtX.refl _⟩
  case round =>
    obtain ⟨i, oo, co, rfl, rfl, hi, hO, hE⟩ := hrel
    have hXr : HX X wr := hX.ext hE
    have hXu : HX (un X oo) wr := hO.unX hXr
    have hbase := hE.size
    by_cases hlt : i < n
    · have him : i < m.length := by rw [hnn.out]; exact hlt
      have hiA : i < (appL m x).length := by rw [hal.out]; exact hlt
      have hsr : Sl RV 1 (mk (un X oo) wr) ua m := hua.old RV.mono hE (fun j hj => hO.ob_lt hj)
      have hvr : RV (mk (un X oo) wr) (.slice va x.length vca) x := old_un RV.mono ⟨va, vca, rfl, hvca, hva⟩ hE (fun j hj => hO.ob_lt hj)
      have htk := hid (take_snoc (appL m x) i hiA)
      have hln := hid (len_take (l := appL m x) (i := i) (by omega))
      obtain ⟨a1, c1, hX1, hc1, hcl1, hq1⟩ := hsr.row i him
      have k00 := hc1.out noY wr (ExtX.refl _) rfl
      have hrl := hid (hsh'.out.2 m[i] (List.getElem_mem _))
      have hge := hid (appL_getElem (v := x) him hiA)
      have hdb := dot_bounds (hB'.out m[i] (List.getElem_mem _)) hB2'.out hB1 (by rw [hrl.out]; exact hc96) hBB
      have hdot := dot_any (un X oo) wr _ _ m[i] x hXu ⟨a1, c1, rfl, hcl1, hq1⟩ hvr (by rw [hrl.out]; omega) (by rw [hrl.out, hcc.out]) hdb.1 hdb.2
      rw [← hge.out] at hdot
      obtain ⟨v, hv⟩ : ∃ v, (appL m x)[i] = v := ⟨_, rfl⟩
      rw [hv] at hdot htk
      clear hv hc1 hdb
      go_wp2_with (with_reducible refine up_ix1 slRats (by omega) (by assumption) ?_)
      refine hdot.mono ?_
      rintro e w6 ⟨hE6, u6, rfl, hu6⟩
      obtain ⟨s6, a6, n6, c6, d6, k6, e6, rfl⟩ := hu6.shape
      have hO6 := hO.ext0 QC.elem hE6
      have hb6 := hE6.size
      clear k00
      go_wp2_with (at_builtin; refine st_append1n (l := (appL m x).take i) slRat rfl QC.elem (by omega) (hXr.ext hE6) i hln.out rfl rfl hO6 (.agg #[.bool s6, .slice a6 n6 c6, .slice d6 k6 e6]) v rfl hu6 (by omega) (by omega) ?_; intro oo2 co2 w7 hO7 hE7 hor)
      have hE8 := (hE.trans hE6).own hO6 (Nat.le_refl _) hE7
      rw [htk.out] at hO7
      go_roundw
      case rel => exact ⟨i + 1, oo2, co2, by go_num, by go_num, by omega, hO7, hE8⟩
      case measure => simp [intOf]; omega
    · have hil : i = n := by omega
      subst hil
      rw [List.take_of_length_le (by rw [hal.out]; exact Nat.le_refl _)] at hO
      have hc := hO.lenCap
      have hs := hO.sl QC.elem
      go_wp2_with fail
      go_ret2
      exact ⟨hE, _, rfl, oo, co, by rw [hal.out]; rfl, hc, hs⟩

set_option maxRecDepth 100000 in
theorem mul_ok (X : Nat → Bool) (w : World) (u v : Value) (a b : List (List Rat)) (k n c B : Nat) (hX : HX X w) (hu : MV (mk X w) u a) (hv : MV (mk X w) v b) (hfa : formedB a = true) (hfb : formedB b = true) (ha : a.length = k) (hb : b.length = n) (hca : colsL a = n) (hcb : colsL b = c) (hB : BM B a) (hB2 : BM B b) (hB1 : 1 ≤ B) (hBB : 200 * B ≤ 68000000000) : Calls Tryz.prog 46 #[u, v] w (M2Out X w (mulL a b n c)) := by
  obtain ⟨hsa, ha96, hna96, hposa, hza⟩ := formedB_shp hfa
  obtain ⟨hsb, hb96, hcb96, hposb, hzb⟩ := formedB_shp hfb
  rw [ha, hca] at hsa
  rw [hb, hcb] at hsb
  rw [ha] at ha96 hposa hza
  rw [hb] at hb96 hposb hzb
  rw [hca] at hna96 hposa hza
  rw [hcb] at hcb96 hposb hzb
  have htr := transpose_ok X w v b n c hX hv hfb hb hcb
  have htf : Hid (0 < k → formedB (trL b n c) = true ∧ colsL (trL b n c) = n) := hid fun hk => by
    have hn1 := hposa hk
    by_cases hc0 : 0 < c
    · exact ⟨shpf (trL_shp b n c) hcb96 hn1 hna96, shpc (trL_shp b n c) hc0⟩
    · have := hposb (by omega); omega
  have htb := hid (hb_bm (trL_hb (n := n) (c := c) (bm_hb hB2 hB1)))
  have hfo := fun w' (h : Ext w w') => formed_any X w' u a (mkx MV.mono hu h) (by omega)
  have hcol := fun w' (h : Ext w w') => columns_any X w' u a (mkx MV.mono hu h)
  rw [hfa] at hfo
  rw [hca] at hcol
  have hfo' := hid hfo
  have hcol' := hid hcol
  obtain ⟨ua, uca, rfl, huca, hua⟩ := hu
  obtain ⟨va, vca, rfl, hvca, hva⟩ := hv
  have hhu := hua.hd
  have hml : Hid ((mulL a b n c).length = k) := hid (by rw [mulL_len]; exact ha)
  have hsa' := hid hsa
  have hB' := hid hB
  have haa := hid ha
  rw [ha] at huca hhu hfo' hcol' ⊢
  rw [hb] at htr hvca ⊢
  clear hfo hcol hfa hfb ha hb hca hcb hsa hsb hza hzb hposa hposb hva hB hB2
  go_enter Tryz.func46, Tryz.ntmps46
  go_wp2_with fail
  refine htr.mono ?_
  rintro e w1 ⟨hE1, ut, rfl, hut⟩
  go_wp2_with fail
  refine (hfo'.out w1 hE1).mono ?_
  rintro e w2 ⟨rfl, rfl⟩
  go_wp2_with fail
  refine (hcol'.out w2 hE1).mono ?_
  rintro e w3 ⟨rfl, rfl⟩
  have hX3 := hX.ext hE1
  have hua3 := hua.mono RV.mono (mk_ext hE1)
  go_wp2_with fail
  go_loopw [8, 34] (fun o kk wr => ∃ (i : Nat) (oo : Option Addr) (co : Nat), kk = .int .i64 i ∧ o = .slice oo i co ∧ i ≤ k ∧ OL RC 1 X w3.heap.size 33 wr oo co ((mulL a b n c).take i) ∧ Ext w3 wr) (fun _ kk _ => k - (intOf kk).toNat)
  case atStart => exact ⟨0, none, 0, rfl, rfl, Nat.zero_le _, OL.nil _ _ _ _ _ _, ExtX.refl _⟩
  case round =>
    obtain ⟨i, oo, co, rfl, rfl, hi, hO, hE⟩ := hrel
    have hXr : HX X wr := hX3.ext hE
    have hXu : HX (un X oo) wr := hO.unX hXr
    have hbase := hE.size
    by_cases hlt : i < k
    · have him : i < a.length := by rw [haa.out]; exact hlt
      have hiM : i < (mulL a b n c).length := by rw [hml.out]; exact hlt
      have hsr : Sl RV 1 (mk (un X oo) wr) ua a := hua3.old RV.mono hE (fun j hj => hO.ob_lt hj)
      have htr : MC (mk (un X oo) wr) ut (trL b n c) := old_un MC.mono hut hE (fun j hj => hO.ob_lt hj)
      have htk := hid (take_snoc (mulL a b n c) i hiM)
      have hln := hid (len_take (l := mulL a b n c) (i := i) (by omega))
      obtain ⟨a1, c1, hX1, hc1, hcl1, hq1⟩ := hsr.row i him
      have k00 := hc1.out noY wr (ExtX.refl _) rfl
      have hrl := hid (hsa'.out.2 a[i] (List.getElem_mem _))
      have hge := hid (mulL_getElem (b := b) (n := n) (c := c) him hiM)
      obtain ⟨hf1, hf2⟩ := htf.out (by omega)
      have hap := apply_ok (un X oo) wr ut _ (trL b n c) a[i] B hXu (htr.mv (fun r hr q hq => Nat.le_trans (htb.out r hr q hq) (by omega))) ⟨a1, c1, rfl, hcl1, hq1⟩ hf1 (by rw [hf2]; exact hrl.out) htb.out (hB'.out a[i] (List.getElem_mem _)) hB1 hBB
      rw [← hge.out] at hap
      obtain ⟨v, hv⟩ : ∃ v, (mulL a b n c)[i] = v := ⟨_, rfl⟩
      rw [hv] at hap htk
      clear hv hc1 hf1 hf2
      go_wp2_with (with_reducible refine up_ix1 slRats (by omega) (by assumption) ?_)
      refine hap.mono ?_
      rintro e w6 ⟨hE6, u6, rfl, hu6⟩
      obtain ⟨a6, c6, rfl, hcl6, hs6⟩ := hu6
      have hO6 := hO.ext0 RC.elem hE6
      have hb6 := hE6.size
      clear k00
      go_wp2_with (at_builtin; refine st_append1n (l := (mulL a b n c).take i) slRats rfl RC.elem (by omega) (hXr.ext hE6) i hln.out rfl rfl hO6 (.slice a6 v.length c6) v rfl ⟨a6, c6, rfl, hcl6, hs6⟩ (by omega) (by omega) ?_; intro oo2 co2 w7 hO7 hE7 hor)
      have hE8 := (hE.trans hE6).own hO6 (Nat.le_refl _) hE7
      rw [htk.out] at hO7
      go_roundw
      case rel => exact ⟨i + 1, oo2, co2, by go_num, by go_num, by omega, hO7, hE8⟩
      case measure => simp [intOf]; omega
    · have hil : i = k := by omega
      subst hil
      rw [List.take_of_length_le (by rw [hml.out]; exact Nat.le_refl _)] at hO
      have hc := hO.lenCap
      have hs := hO.sl RC.elem
      go_wp2_with fail
      go_ret2
      exact ⟨hE1.trans hE, _, rfl, oo, co, by rw [hml.out]; rfl, hc, hs⟩
end Go.Proofs.YtjbhcniiioepgaaGreat

namespace Go.Proofs.YtjbhcniiioepgaaGreat
open Go.RowKit Go.Rep Go.Lim Go.Lin

/-- One row was eliminated; nothing else was turned. -/
def EOut (Z : Nat → Bool) (base : Nat) (e : TypeId) (w : World) (a : Option Addr) (cap : Nat) (l : List Rat) (ee : Ending) (w' : World) : Prop := ee = .returned (.tuple #[]) ∧ ExtX (ob a) w w' ∧ OL QC 3 (cut Z a) base e w' a cap l

set_option maxRecDepth 100000 in
set_option maxHeartbeats 1600000 in
theorem eliminate_any (Z : Nat → Bool) (base : Nat) (w : World) (a1 a2 : Option Addr) (c1 c2 n col : Nat) (row piv : List Rat) (hX : HX Z w) (h1 : OL QC 3 (cut Z a1) base 31 w a1 c1 row) (h2 : OL QC 3 (cut Z a2) base 31 w a2 c2 piv)
    (hz1 : ∀ k, ob a1 k = true → Z k = true) (hz2 : ∀ k, ob a2 k = true → Z k = true) (hdis : ∀ k, ob a1 k = true → ob a2 k = false) (hl1 : row.length = n) (hl2 : piv.length = n) (hn : n ≤ 1000) (hcol : col < n)
    (hb1 : BR 68719476736 row) (hb2 : BR 68719476736 piv) (hb3 : hq (row.getD col 0 / piv.getD col 0) ≤ 68719476736) (hb4 : ∀ x ∈ piv, hq (row.getD col 0 / piv.getD col 0 * x) ≤ 68719476736) :
    Calls Tryz.prog 136 #[.slice a1 n c1, .slice a2 n c2, .int .i64 (col : Int)] w (EOut Z base 31 w a1 c1 (elimL row piv col)) := by
  have hu1 := hid (un_cut hz1)
  have hu2 := hid (un_cut hz2)
  have hdis2 : ∀ k, ob a2 k = true → ob a1 k = false := fun k hk => by
    cases hb : ob a1 k
    · rfl
    · rw [hdis k hb] at hk; simp at hk
  have hd1 : Hd a1 n := by have := h1.hd; rw [hl1] at this; exact this
  have hd2 : Hd a2 n := by have := h2.hd; rw [hl2] at this; exact this
  have hc1r : col < row.length := by omega
  have hc2r : col < piv.length := by omega
  have g1 : Hid (row.getD col 0 = row[col]) := hid (by simp [List.getD_eq_getElem?_getD, hc1r])
  have g2 : Hid (piv.getD col 0 = piv[col]) := hid (by simp [List.getD_eq_getElem?_getD, hc2r])
  obtain ⟨E, hE⟩ : ∃ E, elimL row piv col = E := ⟨_, rfl⟩
  have hEl : Hid (E.length = n) := hid (by rw [← hE, elimL_len _ _ _ (by omega)]; exact hl2)
  have hEi : Hid (∀ j (hj : j < row.length) (hj2 : j < piv.length) (hj3 : j < E.length), E[j] = row[j] - (row.getD col 0 / piv.getD col 0) * piv[j]) := hid fun j hj hj2 hj3 => by subst hE; simp [elimL]
  have hE0 : Hid (row.getD col 0 / piv.getD col 0 = 0 → E = row) := hid fun h => by rw [← hE]; exact elimL_zero _ _ _ (by omega) h
  have hrE : Hid (E.length = row.length) := hid (by rw [hEl.out, hl1])
  have hl1' := hid hl1
  have hl2' := hid hl2
  have hb1' := hid hb1
  have hb2' := hid hb2
  obtain ⟨f, hf⟩ : ∃ f, row.getD col 0 / piv.getD col 0 = f := ⟨_, rfl⟩
  rw [hf] at hb3 hE0 hEi hb4
  have hb3' := hid hb3
  have hb4' := hid hb4
  have hff : Hid (row[col] / piv[col] = f) := hid (by rw [← g1.out, ← g2.out]; exact hf)
  rw [hE]
  obtain ⟨gg1, oo1, s1, p1, n1, q1, d1, k1, e1, hg1, hog1, hcc1, hr1⟩ := h1.rat QC.shaped col hc1r
  obtain ⟨gg2, oo2, s2, p2, n2, q2, d2, k2, e2, hg2, hog2, hcc2, hr2⟩ := h2.rat QC.shaped col hc2r
  rw [hu1.out] at hr1
  rw [hu2.out] at hr2
  have i1 : ∀ W, (Instr.indexAt 33 (.slice a1 n c1) (.int .i64 (col : Int))).run Tryz.prog W = .ok (.pointer (some ⟨gg1, oo1, none⟩)) W := by rw [← hg1]; exact run_indexAt_adr slRat a1 n c1 .i64 col hd1 hcol
  have i2 : ∀ W, (Instr.indexAt 33 (.slice a2 n c2) (.int .i64 (col : Int))).run Tryz.prog W = .ok (.pointer (some ⟨gg2, oo2, none⟩)) W := by rw [← hg2]; exact run_indexAt_adr slRat a2 n c2 .i64 col hd2 hcol
  have hEd : Ext w w.drew := (ExtX.refl w).drew
  have hS : Hid (∀ Y W', ExtX Y w.drew W' → Y gg1 = false → Y gg2 = false → W'.cell? ⟨gg1, oo1, none⟩ = some (.bool s1) ∧ W'.cell? ⟨gg1, oo1 + 1, none⟩ = some (.slice p1 n1 q1) ∧ W'.cell? ⟨gg1, oo1 + 2, none⟩ = some (.slice d1 k1 e1) ∧ W'.cell? ⟨gg2, oo2, none⟩ = some (.bool s2) ∧ W'.cell? ⟨gg2, oo2 + 1, none⟩ = some (.slice p2 n2 q2) ∧ W'.cell? ⟨gg2, oo2 + 2, none⟩ = some (.slice d2 k2 e2)) := hid fun Y W' h hy1 hy2 => by
    have z1 := hcc1.out Y W' ((ExtX.of hEd).trans h) hy1
    have z2 := hcc2.out Y W' ((ExtX.of hEd).trans h) hy2
    exact ⟨z1.1, z1.2.1, z1.2.2, z2.1, z2.2.1, z2.2.2⟩
  obtain ⟨k00, k01, k02, k10, k11, k12⟩ := hS.out noY w.drew (ExtX.refl _) rfl rfl
  have hlt1 : gg1 < w.heap.size := cell_lt k00
  have hlt2 : gg2 < w.heap.size := cell_lt k10
  have hXd : HX Z w.drew := hX
  have hx1 : QV (mk Z w.drew) (.agg #[.bool s1, .slice p1 n1 q1, .slice d1 k1 e1]) row[col] := hr1.qv (hb1'.out _ (List.getElem_mem _))
  have hx2 : QV (mk Z w.drew) (.agg #[.bool s2, .slice p2 n2 q2, .slice d2 k2 e2]) piv[col] := hr2.qv (hb2'.out _ (List.getElem_mem _))
  obtain ⟨ec, hec⟩ : ∃ ec, e5 (decide (piv[col] = 0)) = ec := ⟨_, rfl⟩
  have qd := qdiv Z w.drew _ _ _ _ hXd hx1 hx2
  rw [hec, hff.out] at qd
  have hEA : Ext w.drew (w.alloc (.cells #[.bool false, .slice none 0 0, .slice none 0 0] 31)).drew := ⟨rfl, rfl, rfl, ((ExtX.refl (Y := noY) w).alloc _).size, ((ExtX.refl (Y := noY) w).alloc _).block⟩
  have bA : Bx (w.alloc (.cells #[.bool false, .slice none 0 0, .slice none 0 0] 31)).drew w.heap.size #[.bool false, .slice none 0 0, .slice none 0 0] 31 := Bx.new w _ _
  have hEA2 : Ext w (w.alloc (.cells #[.bool false, .slice none 0 0, .slice none 0 0] 31)).drew := hEd.trans hEA
  have hXA : HX (un Z (some ⟨w.heap.size, 0, none⟩)) (w.alloc (.cells #[.bool false, .slice none 0 0, .slice none 0 0] 31)).drew := fun k hk => by
    have h9 : (w.alloc (.cells #[.bool false, .slice none 0 0, .slice none 0 0] 31)).drew.heap.size = w.heap.size + 1 := by show (w.alloc _).heap.size = _; simp
    rw [h9]
    by_cases hz : Z k = true
    · have := hX k hz; omega
    · have : w.heap.size = k := by simpa [un, hz, ob] using hk
      omega
  have hnewb : ∀ j, j < w.heap.size → ob (some ⟨w.heap.size, 0, none⟩) j = false := fun j hj => ob_other (by omega)
  have qdA := qdiv (un Z (some ⟨w.heap.size, 0, none⟩)) (w.alloc (.cells #[.bool false, .slice none 0 0, .slice none 0 0] 31)).drew _ _ _ _ hXA (old_un (w := w) QV.mono hx1 hEA2 hnewb) (old_un (w := w) QV.mono hx2 hEA2 hnewb)
  rw [hec, hff.out] at qdA
  clear hg1 hg2 hcc1 hcc2 hr1 hr2 hf hE hl1 hl2 hb1 hb2 hb3 hb4 hec
  go_enter Tryz.func136, Tryz.ntmps136
  go_upto_region 0 with (fail)
  go_cut [6, 7] from 10 to 21 (fun b6 _ wx => ∃ bf s a n' c d k e, b6 = .pointer (some ⟨bf, 0, none⟩) ∧ Bx wx bf #[.bool s, .slice a n' c, .slice d k e] 31 ∧ w.heap.size ≤ bf ∧ QC (mk Z wx) (.agg #[.bool s, .slice a n' c, .slice d k e]) f ∧ Ext w wx)
  case first =>
    go_region_held3 (fun w' => w'.cell? ⟨gg1, oo1, none⟩ = some (.bool s1) ∧ w'.cell? ⟨gg1, oo1 + 1, none⟩ = some (.slice p1 n1 q1) ∧ w'.cell? ⟨gg1, oo1 + 2, none⟩ = some (.slice d1 k1 e1) ∧ w'.cell? ⟨gg2, oo2, none⟩ = some (.bool s2) ∧ w'.cell? ⟨gg2, oo2 + 1, none⟩ = some (.slice p2 n2 q2) ∧ w'.cell? ⟨gg2, oo2 + 2, none⟩ = some (.slice d2 k2 e2))
      (first | exact hS.out noY _ t1 rfl rfl | exact hS.out noY _ (ExtX.alloc t1 _) rfl rfl | exact hS.out noY _ hEA rfl rfl | exact hS.out noY _ (hEA.trans t2) rfl rfl | exact hS.out (ob (some ⟨w.heap.size, 0, none⟩)) _ ((ExtX.of (hEA.trans t2)).trans hst.2) (ob_other (by omega)) (ob_other (by omega)) | exact hS.out (ob (some ⟨w6.heap.size, 0, none⟩)) _ ((ExtX.of (t1.alloc _)).trans hst.2) (ob_other (by have := t1.size; have h9 : w.drew.heap.size = w.heap.size := rfl; omega)) (ob_other (by have := t1.size; have h9 : w.drew.heap.size = w.heap.size := rfl; omega)) | go_keep)
      (first | (go_at_call 135; (with_reducible refine qd.mono ?_); rintro ee w6 ⟨t1, u6, rfl, hu6⟩; obtain ⟨s6, a6, n6, c6, d6, k6, e6, rfl⟩ := hu6.shape; have hst := (Bx.new w6 #[.bool false, .slice none 0 0, .slice none 0 0] 31).set3 (.bool s6) (.slice a6 n6 c6) (.slice d6 k6 e6)) | (go_at_call 135; (with_reducible refine qdA.mono ?_); rintro ee w6 ⟨t2, u6, rfl, hu6⟩; obtain ⟨s6, a6, n6, c6, d6, k6, e6, rfl⟩ := hu6.shape; have bb := bA.ext0 t2; have y0 := bb.cell 0 rfl; have y1 := bb.cell 1 rfl; have y2 := bb.cell 2 rfl; have z0 := bb.frozen 0; have z1 := bb.frozen 1; have z2 := bb.frozen 2; have hst := bb.set3 (.bool s6) (.slice a6 n6 c6) (.slice d6 k6 e6)))
    · clear k00 k01 k02 k10 k11 k12
      go_wp2_with fail
      go_meet
      case rel => exact ⟨w6.heap.size, _, _, _, _, _, _, _, rfl, Bx.new w6 _ _, (hEd.trans t1).size, QC.mono _ _ _ _ (mk_ext ((ExtX.refl w6).alloc _)) hu6, (hEd.trans t1).alloc _⟩
    · have hq7 := QC.mono _ _ _ _ (mk_sub (X := Z) fun k _ hk => un_left hk) (QC.mono _ _ _ _ (mk_mono hst.2 fun k hk => un_right hk) hu6)
      have hE7 : Ext w _ := ExtX.box (hEA2.trans t2) hst.2 (Nat.le_refl _)
      clear k00 k01 k02 k10 k11 k12 y0 y1 y2 z0 z1 z2
      go_wp2_with fail
      go_meet
      case rel => exact ⟨w.heap.size, _, _, _, _, _, _, _, rfl, hst.1, Nat.le_refl _, hq7, hE7⟩
  case rest =>
    obtain ⟨bf, sf, af, nf, cf, df, kf, ef, rfl, b6, hbf, hqf, hEw⟩ := hcut
    clear k00 k01 k02 k10 k11 k12 i1 i2 qd qdA hS bA hEA hEA2
    have hXc := hX.ext hEw
    have h1c := h1.ext0 QC.elem hEw
    have h2c := h2.ext0 QC.elem hEw
    have f0 := b6.cell 0 rfl
    have f1 := b6.cell 1 rfl
    have f2 := b6.cell 2 rfl
    have hqv := hqf.qv hb3'.out
    by_cases h0 : f = 0
    · have hr := hid (hE0.out h0)
      have hs0 : Hid (f.num.sign = 0) := hid (by rw [h0]; rfl)
      clear h0
      go_wp2_with fail
      refine (qsign Z wc _ f hXc hqv).mono ?_
      rintro e w7 ⟨hE7, rfl⟩
      rw [hs0.out]
      clear f0 f1 f2
      go_wp2_with fail
      refine bodyPost_ret (results_none rfl _ _ _) rfl ?_
      exact ⟨rfl, ExtX.of (hEw.trans hE7), by rw [hr.out]; exact h1c.ext0 QC.elem hE7⟩
    · have hs0 : ((f.num.sign : Int) == 0) = false := beqF (by intro h; exact h0 (Rat.num_eq_zero.1 (Int.sign_eq_zero_iff_zero.1 h)))
      clear h0
      go_wp2_with fail
      refine (qsign Z wc _ f hXc hqv).mono ?_
      rintro e w7 ⟨hE7, rfl⟩
      have b7 := b6.ext0 hE7
      have hqf7 := mkx QV.mono hqv hE7
      have hE07 := hEw.trans hE7
      have h17 := h1c.ext0 QC.elem hE7
      have h27 := h2c.ext0 QC.elem hE7
      clear f0 f1 f2 b6
      go_wp2_with fail
      go_loopw [27] (fun k wr => ∃ (j : Nat), k = .int .i64 j ∧ j ≤ n ∧ OL QC 3 (cut Z a1) base 31 wr a1 c1 (mix E row j) ∧ OL QC 3 (cut Z a2) base 31 wr a2 c2 piv ∧ Bx wr bf #[.bool sf, .slice af nf cf, .slice df kf ef] 31 ∧ QV (mk Z wr) (.agg #[.bool sf, .slice af nf cf, .slice df kf ef]) f ∧ ExtX (ob a1) w wr) (fun k _ => n - (intOf k).toNat)
      case atStart => exact ⟨0, rfl, Nat.zero_le _, by rw [mix_zero]; exact h17, h27, b7, hqf7, ExtX.of hE07⟩
      case round =>
        obtain ⟨j, rfl, hj, hO1, hO2, b7, hqf7, hE⟩ := hrel
        have hXr := hX.ext hE
        by_cases hlj : j < n
        · have hjr : j < row.length := by rw [hl1'.out]; exact hlj
          have hjp : j < piv.length := by rw [hl2'.out]; exact hlj
          have hjE : j < E.length := by rw [hEl.out]; exact hlj
          have hml : Hid ((mix E row j).length = n) := hid (by rw [mix_len hrE.out, hEl.out])
          have hjm : j < (mix E row j).length := by rw [hml.out]; exact hlj
          have hmg : Hid ((mix E row j)[j] = row[j]) := hid (by rw [mix_getElem hrE.out, if_neg (by omega)])
          have hjs : Hid ((mix E row j).set j E[j] = mix E row (j + 1)) := hid (mix_set hrE.out hjE)
          have hEj : Hid (row[j] - f * piv[j] = E[j]) := hid (hEi.out j hjr hjp hjE).symm
          have hbp := hid (hb2'.out piv[j] (List.getElem_mem _))
          have hbr := hid (hb1'.out row[j] (List.getElem_mem _))
          have hbm := hid (hb4'.out piv[j] (List.getElem_mem _))
          obtain ⟨x, hx⟩ : ∃ x, piv[j] = x := ⟨_, rfl⟩
          obtain ⟨y, hy⟩ : ∃ y, row[j] = y := ⟨_, rfl⟩
          obtain ⟨v, hv⟩ : ∃ v, E[j] = v := ⟨_, rfl⟩
          obtain ⟨r, hr⟩ : ∃ r, mix E row j = r := ⟨_, rfl⟩
          obtain ⟨gg, oo, sg, ap, np, cp, dp, kp, ep, hg, hog, hcc, hrr⟩ := hO1.rat QC.shaped j hjm
          rw [hmg.out, hy, hu1.out] at hrr
          rw [hx, hy, hv] at hEj
          rw [hx] at hbp hbm
          rw [hy] at hbr
          rw [hv, hr] at hjs
          rw [hr] at hO1 hjm hml
          have hxp := hid hx
          have i1 : ∀ W, (Instr.indexAt 33 (.slice a1 n c1) (.int .i64 (j : Int))).run Tryz.prog W = .ok (.pointer (some ⟨gg, oo, none⟩)) W := by rw [← hg]; exact run_indexAt_adr slRat a1 n c1 .i64 j hd1 (by omega)
          have bx := Bx.new wr #[.bool false, .slice none 0 0, .slice none 0 0] 31
          clear hx hy hv hr hmg
          go_wp2_with (first | (with_reducible refine up_ixn slRat (by omega) (by assumption) ?_) | ((with_reducible show wpList _ _ _ (⟨_, .load _ _, _, _, _, _⟩ :: _) _ _); refine st_loadOL stRat j hO2 hjp rfl (by simp) QC.agg ?_; intro u5 hu5; rw [hxp.out, hu2.out] at hu5; obtain ⟨s5, a5, n5, c5, d5, k5, e5, rfl⟩ := hu5.shape) | ((with_reducible show wpList _ _ _ (⟨_, .store _ _ _, _, _, _, _⟩ :: _) _ _); refine st_storeBox stRat rfl rfl bx rfl rfl (one3 _ _ _ _ _ _ _) ?_; intro w5 r1 r2))
          have hE5 : Ext wr w5 := ExtX.box ((ExtX.refl wr).alloc _) r2 (Nat.le_refl _)
          have hEd : Ext w5 w5.drew := (ExtX.refl w5).drew
          have hE5d := hE5.trans hEd
          have hO5 := hO1.ext0 QC.elem hE5d
          have hP5 := hO2.ext0 QC.elem hE5d
          have b5 := b7.ext0 hE5d
          have hx5 : QV (mk Z w5.drew) (.agg #[.bool s5, .slice a5 n5 c5, .slice d5 k5 e5]) x := (mkx QC.mono hu5 hE5d).qv hbp.out
          have hy5 : QV (mk Z w5.drew) (.agg #[.bool sg, .slice ap np cp, .slice dp kp ep]) y := (mkx QC.mono hrr hE5d).qv hbr.out
          have hf5 : QV (mk Z w5.drew) (.agg #[.bool sf, .slice af nf cf, .slice df kf ef]) f := mkx QV.mono hqf7 hE5d
          have hXd : HX Z w5.drew := hXr.ext hE5d
          obtain ⟨bw, hbw⟩ : ∃ bw, wr.heap.size = bw := ⟨_, rfl⟩
          have hab : Hid (ob a1 bw = false) := hid (by rw [← hbw]; exact hO1.ob_ge (Nat.le_refl _))
          have haf : Hid (ob a1 bf = false) := hid (by
            cases hb : ob a1 bf
            · rfl
            · have := (h1.block hb).2; omega)
          rw [hbw] at r1
          have hS : Hid (∀ Y W', ExtX Y w5.drew W' → Y gg = false → Y bf = false → Y bw = false → W'.cell? ⟨gg, oo, none⟩ = some (.bool sg) ∧ W'.cell? ⟨gg, oo + 1, none⟩ = some (.slice ap np cp) ∧ W'.cell? ⟨gg, oo + 2, none⟩ = some (.slice dp kp ep) ∧ W'.cell? ⟨bf, 0, none⟩ = some (.bool sf) ∧ W'.cell? ⟨bf, 1, none⟩ = some (.slice af nf cf) ∧ W'.cell? ⟨bf, 2, none⟩ = some (.slice df kf ef) ∧ W'.cell? ⟨bw, 0, none⟩ = some (.bool s5) ∧ W'.cell? ⟨bw, 1, none⟩ = some (.slice a5 n5 c5) ∧ W'.cell? ⟨bw, 2, none⟩ = some (.slice d5 k5 e5)) := hid fun Y W' h hy1 hy2 hy3 => by
            have z1 := hcc.out Y W' ((ExtX.of hE5d).trans h) hy1
            have z2 := b5.ext h hy2
            have z3 := (r1.ext0 hEd).ext h hy3
            exact ⟨z1.1, z1.2.1, z1.2.2, z2.cell 0 rfl, z2.cell 1 rfl, z2.cell 2 rfl, z3.cell 0 rfl, z3.cell 1 rfl, z3.cell 2 rfl⟩
          obtain ⟨k00, k01, k02, k10, k11, k12, k20, k21, k22⟩ := hS.out noY w5.drew (ExtX.refl _) rfl rfl rfl
          have hR5 := r1.ext0 hEd
          clear r1 bx hcc
          rw [hbw]
          go_wp2_with fail
          go_region_with (first | (go_at_call 98; (with_reducible refine (qmul Z w5.drew _ _ _ _ hXd hf5 hx5).mono ?_); rintro ee w6 ⟨t1, u6, rfl, hu6⟩; obtain ⟨s6, a6, n6, c6, d6, k6, e6, rfl⟩ := hu6.shape; have hX6 := hXd.ext t1; have hy6 := mkx QV.mono hy5 t1; have hm6 := hu6.qv hbm.out; obtain ⟨m0, m1, m2, _⟩ := hS.out noY w6 t1 rfl rfl rfl) | (go_at_call 193; (with_reducible refine (qsub Z w6 _ _ _ _ hX6 hy6 hm6).mono ?_); rintro ee w7 ⟨t7, u7, rfl, hu7⟩; obtain ⟨s7, a7, n7, c7, d7, k7, e7, rfl⟩ := hu7.shape; rw [hEj.out] at hu7; have t2 := t1.trans t7; have hO7 := hO5.ext0 QC.elem t2; obtain ⟨_, v0, v1, v2, _, ⟨g0, f0⟩, ⟨g1, f1⟩, ⟨g2, f2⟩, _⟩ := hO7.cell3 j hjm hg; have hset := hO7.set3 tyRat QC.elem j hjm hg (v0 := .bool s7) (v1 := .slice a7 n7 c7) (v2 := .slice d7 k7 e7) (x := v) (by rw [hu1.out]; exact hu7)))
          all_goals
            obtain ⟨q1, q2⟩ := hset
            rw [hjs.out] at q1
            have hP8 := (hP5.ext0 QC.elem t2).ext QC.elem q2 (fun k _ hk => cut_mk (hz1 k hk) (hdis k hk)) (fun _ _ hk => hk)
            have b8 := (b5.ext0 t2).ext q2 haf.out
            have hf8 : QV (mk Z _) _ _ := QV.mono _ _ _ _ (mk_mono q2 hz1) (mkx QV.mono hf5 t2)
            have hE8 := (hE.trans (ExtX.of (hE5d.trans t2))).trans q2
            clear k00 k01 k02 k10 k11 k12 k20 k21 k22 m0 m1 m2 g0 g1 g2 f0 f1 f2 i1
            go_wp2_with fail
            go_roundw
            case rel => exact ⟨j + 1, by go_num, by omega, q1, hP8, b8, hf8, hE8⟩
            case measure => simp [intOf]; omega
        · have hjn : j = n := by omega
          subst hjn
          rw [mix_full (by rw [hEl.out]; exact Nat.le_refl _) (by rw [hl1'.out]; exact Nat.le_refl _)] at hO1
          go_wp2_with fail
          go_end0
          exact ⟨rfl, hE, hO1⟩
end Go.Proofs.YtjbhcniiioepgaaGreat

namespace Go.Lin
def idxI : Option Nat → Int
  | none => -1
  | some k => k
end Go.Lin
namespace Go.Proofs.YtjbhcniiioepgaaGreat
open Go.RowKit Go.Rep Go.Lim Go.Lin

theorem closure_any (X : Nat → Bool) (w : World) (a : Option Addr) (l : List Rat) (n c col b : Nat) (hX : HX X w) (hs : Sl QC 3 (mk X w) a l) (hl : l.length = n) (hcol : col < n) (hB : BR 68719476736 l) (hb : w.cell? ⟨b, 0, none⟩ = some (.int .i64 (col : Int))) :
    Calls Tryz.prog 148 #[.slice a n c, .pointer (some ⟨b, 0, none⟩)] w (BOut w (decide (l.getD col 0 ≠ 0))) := by
  have hh : Hd a n := by have := hs.hd; rw [hl] at this; exact this
  have hcl : col < l.length := by omega
  have hsv := hs.qv hB
  obtain ⟨x, hx⟩ : ∃ x, l[col] = x := ⟨_, rfl⟩
  have hg : Hid (l.getD col 0 = x) := hid (by simp [List.getD_eq_getElem?_getD, hcl, hx])
  have hx' := hid hx
  clear hl hB hx
  rw [hg.out]
  by_cases h0 : x = 0
  · have hr : Hid (decide (x ≠ 0) = false) := hid (by simp [h0])
    have hs0 : Hid (x.num.sign = 0) := hid (by rw [h0]; rfl)
    rw [hr.out]
    clear h0
    go_enter Tryz.func148, Tryz.ntmps148
    go_wp2_with (first | (with_reducible refine up_ixn slRat (by omega) (by assumption) ?_) | ((with_reducible show wpList _ _ _ (⟨_, .load 31 _, _, _, _, _⟩ :: _) _ _); refine st_loadElem stRat col hsv hcl rfl (by simp) QV.agg ?_; intro u5 hu5; rw [hx'.out] at hu5; obtain ⟨s5, a5, n5, c5, d5, k5, e5, rfl⟩ := hu5.shape))
    refine (qsign X w _ x hX hu5).mono ?_
    rintro e w7 ⟨hE7, rfl⟩
    rw [hs0.out]
    go_wp2_with fail
    go_ret
    exact ⟨hE7, rfl⟩
  · have hr : Hid (decide (x ≠ 0) = true) := hid (by simp [h0])
    have hs0 : ((x.num.sign : Int) != 0) = true := bneT (by intro h; exact h0 (Rat.num_eq_zero.1 (Int.sign_eq_zero_iff_zero.1 h)))
    rw [hr.out]
    clear h0
    go_enter Tryz.func148, Tryz.ntmps148
    go_wp2_with (first | (with_reducible refine up_ixn slRat (by omega) (by assumption) ?_) | ((with_reducible show wpList _ _ _ (⟨_, .load 31 _, _, _, _, _⟩ :: _) _ _); refine st_loadElem stRat col hsv hcl rfl (by simp) QV.agg ?_; intro u5 hu5; rw [hx'.out] at hu5; obtain ⟨s5, a5, n5, c5, d5, k5, e5, rfl⟩ := hu5.shape))
    refine (qsign X w _ x hX hu5).mono ?_
    rintro e w7 ⟨hE7, rfl⟩
    generalize x.num.sign = sg at hs0
    go_wp2_with fail
    go_ret
    exact ⟨hE7, rfl⟩

set_option maxRecDepth 100000 in
theorem indexfunc_any (X : Nat → Bool) (w : World) (a : Option Addr) (l : List (List Rat)) (n c nc col b : Nat) (hX : HX X w) (hs : Sl RC 1 (mk X w) a l) (hl : l.length = n) (hn : n ≤ 1000000) (hr : ∀ r ∈ l, r.length = nc) (hcol : col < nc) (hB : BM 68719476736 l) (hb : w.cell? ⟨b, 0, none⟩ = some (.int .i64 (col : Int))) :
    Calls Tryz.prog 147 #[.slice a n c, .func (.func 148) #[] #[.pointer (some ⟨b, 0, none⟩)]] w (fun e w' => Ext w w' ∧ e = .returned (.int .i64 (idxI (l.findIdx? fun r => decide (r.getD col 0 ≠ 0))))) := by
  have hh : Hd a n := by have := hs.hd; rw [hl] at this; exact this
  have hl' := hid hl
  have hr' := hid hr
  have hB' := hid hB
  have hres1 : Hid (∀ i (hi : i < l.length), (∀ q (hq : q < l.length), q < i → l[q].getD col 0 = 0) → l[i].getD col 0 ≠ 0 → l.findIdx? (fun r => decide (r.getD col 0 ≠ 0)) = some i) := hid fun i hi h1 h2 => by
    rw [List.findIdx?_eq_some_iff_getElem]
    exact ⟨hi, by simpa using h2, fun q hq => by simpa using h1 q (by omega) hq⟩
  have hres2 : Hid ((∀ q (hq : q < l.length), l[q].getD col 0 = 0) → l.findIdx? (fun r => decide (r.getD col 0 ≠ 0)) = none) := hid fun h1 => by
    rw [List.findIdx?_eq_none_iff]
    intro r hr
    obtain ⟨q, hq, rfl⟩ := List.getElem_of_mem hr
    simpa using h1 q hq
  obtain ⟨F, hF⟩ : ∃ F, l.findIdx? (fun r => decide (r.getD col 0 ≠ 0)) = F := ⟨_, rfl⟩
  rw [hF] at hres1 hres2 ⊢
  clear hl hr hB hF
  go_enter Tryz.func147, Tryz.ntmps147
  go_wp2_with fail
  go_loopw [8] (fun k wr => ∃ (i : Nat), k = .int .i64 i ∧ i ≤ n ∧ Hid (∀ q (hq : q < l.length), q < i → l[q].getD col 0 = 0) ∧ Ext w wr) (fun k _ => n - (intOf k).toNat)
  case atStart => exact ⟨0, rfl, Nat.zero_le _, hid (fun q hq h => by omega), ExtX.refl _⟩
  case round =>
    obtain ⟨i, rfl, hi, hok, hE⟩ := hrel
    by_cases hlt : i < n
    · have hil : i < l.length := by rw [hl'.out]; exact hlt
      obtain ⟨a1, c1, hX1, hc1, hcl1, hq1⟩ := (hs.mono RC.mono (mk_ext hE)).row i hil
      have k00 := hc1.out noY wr (ExtX.refl _) rfl
      have hrl := hid (hr'.out l[i] (List.getElem_mem _))
      have hbl := hid (hB'.out l[i] (List.getElem_mem _))
      rw [hrl.out] at k00
      have hcell := hE.cell hb
      have hcall := closure_any X wr a1 l[i] nc c1 col b (hX.ext hE) hq1 hrl.out hcol hbl.out hcell
      by_cases h0 : l[i].getD col 0 = 0
      · have hd : Hid (decide (l[i].getD col 0 ≠ 0) = false) := hid (decide_eq_false (fun h => h h0))
        rw [hd.out] at hcall
        have hok2 : Hid (∀ q (hq : q < l.length), q < i + 1 → l[q].getD col 0 = 0) := hid fun q hq hqi => by
          by_cases e : q = i
          · subst e; exact h0
          · exact hok.out q hq (by omega)
        clear h0 hc1 hq1
        go_wp2_with (with_reducible refine up_ix1 slRats (by omega) (by assumption) ?_)
        refine hcall.mono ?_
        rintro e w5 ⟨hE5, rfl⟩
        clear k00
        go_wp2_with fail
        go_roundw
        case rel => exact ⟨i + 1, by go_num, by omega, hok2, hE.trans hE5⟩
        case measure => simp [intOf]; omega
      · have hd : Hid (decide (l[i].getD col 0 ≠ 0) = true) := hid (decide_eq_true h0)
        rw [hd.out] at hcall
        have hf := hid (hres1.out i hil (fun q hq hqi => hok.out q hq hqi) h0)
        clear h0 hc1 hq1
        go_wp2_with (with_reducible refine up_ix1 slRats (by omega) (by assumption) ?_)
        refine hcall.mono ?_
        rintro e w5 ⟨hE5, rfl⟩
        clear k00
        go_wp2_with fail
        go_ret
        exact ⟨hE.trans hE5, ret_int (by rw [hf.out]; rfl)⟩
    · have hf := hid (hres2.out fun q hq => hok.out q hq (by rw [hl'.out] at hq; omega))
      go_wp2_with fail
      go_ret
      exact ⟨hE, ret_int (by rw [hf.out]; rfl)⟩
end Go.Proofs.YtjbhcniiioepgaaGreat

namespace Go.Lin
theorem getD_row {m : Mat} {i : Nat} (h : i < m.length) : m.getD i [] = m[i] := by simp [List.getD_eq_getElem?_getD, h]
theorem clear_zero (m : Mat) (t col : Nat) : clear m t col 0 = m := by
  unfold clear rows
  refine List.ext_getElem (by simp) fun q h1 h2 => ?_
  rw [List.getElem_mapIdx, if_neg (by omega)]
theorem clear_get {m : Mat} {t col s i : Nat} (h : i < (clear m t col s).length) (h2 : i < m.length) : (clear m t col s)[i] = if t < i ∧ i < t + 1 + s then elimL m[i] (m.getD t []) col else m[i] := by
  show (m.mapIdx _)[i]'(by simpa using h2) = _
  rw [List.getElem_mapIdx]
theorem clear_len (m : Mat) (t col s : Nat) : (clear m t col s).length = m.length := by simp [clear, rows]
theorem clear_set {m : Mat} {t col s : Nat} (h : t + 1 + s < m.length) : (clear m t col s).set (t + 1 + s) (elimL m[t + 1 + s] (m.getD t []) col) = clear m t col (s + 1) := by
  refine List.ext_getElem (by simp [clear_len]) fun q h1 h2 => ?_
  have hq : q < m.length := by rw [clear_len] at h2; exact h2
  rw [List.getElem_set, clear_get h2 hq]
  split
  · subst_vars; rw [if_pos (by omega)]
  · rw [clear_get (by simpa [clear_len] using hq) hq]
    by_cases a : t < q ∧ q < t + 1 + s
    · rw [if_pos a, if_pos (by omega)]
    · rw [if_neg a, if_neg (by omega)]
theorem clear_full {m : Mat} {t col s s' : Nat} (h : m.length ≤ t + 1 + s) (h' : m.length ≤ t + 1 + s') : clear m t col s = clear m t col s' := by
  refine List.ext_getElem (by simp [clear_len]) fun q h1 h2 => ?_
  have hq : q < m.length := by rw [clear_len] at h2; exact h2
  rw [clear_get h1 hq, clear_get h2 hq]
  by_cases a : t < q
  · rw [if_pos (by omega), if_pos (by omega)]
  · rw [if_neg (by omega), if_neg (by omega)]
theorem above_zero (m : Mat) (t col : Nat) : above m t col 0 = m := by
  unfold above rows
  refine List.ext_getElem (by simp) fun q h1 h2 => ?_
  rw [List.getElem_mapIdx, if_neg (by omega)]
theorem above_get {m : Mat} {t col s i : Nat} (h : i < (above m t col s).length) (h2 : i < m.length) : (above m t col s)[i] = if i < t ∧ i < s then elimL m[i] (m.getD t []) col else m[i] := by
  show (m.mapIdx _)[i]'(by simpa using h2) = _
  rw [List.getElem_mapIdx]
theorem above_len (m : Mat) (t col s : Nat) : (above m t col s).length = m.length := by simp [above, rows]
theorem above_set {m : Mat} {t col s : Nat} (h : s < m.length) (hst : s < t) : (above m t col s).set s (elimL m[s] (m.getD t []) col) = above m t col (s + 1) := by
  refine List.ext_getElem (by simp [above_len]) fun q h1 h2 => ?_
  have hq : q < m.length := by rw [above_len] at h2; exact h2
  rw [List.getElem_set, above_get h2 hq]
  split
  · subst_vars; rw [if_pos (by omega)]
  · rw [above_get (by simpa [above_len] using hq) hq]
    by_cases a : q < t ∧ q < s
    · rw [if_pos a, if_pos (by omega)]
    · rw [if_neg a, if_neg (by omega)]
end Go.Lin
namespace Go.Rep
open Go.RowKit Go.Lim Go.Lin
theorem obs_swap {hs : List Hdr} {i k : Nat} (hi : i < hs.length) (hk : k < hs.length) : obs ((hs.set i hs[k]).set k hs[i]) = obs hs := by
  funext b
  rw [Bool.eq_iff_iff]
  constructor
  · intro h
    obtain ⟨q, hq, h2⟩ := obs_of h
    simp only [List.length_set] at hq
    rw [List.getElem_set] at h2
    split at h2
    · exact obs_get hi h2
    · rw [List.getElem_set] at h2
      split at h2
      · exact obs_get hk h2
      · exact obs_get hq h2
  · intro h
    obtain ⟨q, hq, h2⟩ := obs_of h
    by_cases a : q = i
    · subst a
      refine obs_get (i := k) (by simpa using hk) ?_
      rw [List.getElem_set_self]; exact h2
    · by_cases b' : q = k
      · subst b'
        refine obs_get (i := i) (by simpa using hi) ?_
        rw [List.getElem_set_ne (by omega), List.getElem_set_self]; exact h2
      · refine obs_get (i := q) (by simpa using hq) ?_
        rw [List.getElem_set_ne (by omega), List.getElem_set_ne (by omega)]; exact h2
section
variable {X : Nat → Bool} {base : Nat} {e1 e2 : TypeId} {w w' : World} {ao : Option Addr} {cap : Nat} {hs : List Hdr} {m : List (List Rat)}
theorem swapL_get {m : Mat} {i k q : Nat} (hi : i < m.length) (hk : k < m.length) (hq : q < (swapL m i k).length) : (swapL m i k)[q] = if q = k then m[i] else if q = i then m[k] else m[q]'(by simpa [swapL] using hq) := by
  simp only [swapL, getD_row hi, getD_row hk]
  rw [List.getElem_set]
  by_cases a : k = q
  · rw [if_pos a, if_pos a.symm]
  · rw [if_neg a, if_neg (Ne.symm a), List.getElem_set]
    by_cases b : i = q
    · rw [if_pos b, if_pos b.symm]
    · rw [if_neg b, if_neg (Ne.symm b)]
theorem hset_get {hs : List Hdr} {i k q : Nat} (hi : i < hs.length) (hk : k < hs.length) (hq : q < ((hs.set i hs[k]).set k hs[i]).length) : ((hs.set i hs[k]).set k hs[i])[q] = if q = k then hs[i] else if q = i then hs[k] else hs[q]'(by simpa using hq) := by
  rw [List.getElem_set]
  by_cases a : k = q
  · rw [if_pos a, if_pos a.symm]
  · rw [if_neg a, if_neg (Ne.symm a), List.getElem_set]
    by_cases b : i = q
    · rw [if_pos b, if_pos b.symm]
    · rw [if_neg b, if_neg (Ne.symm b)]
theorem MO.swap (h : MO X base e1 e2 w ao cap hs m) {i k : Nat} (hi : i < hs.length) (hk : k < hs.length) (hE : ExtX (ob ao) w w') (ho : OL HdR 1 X base e1 w' ao cap ((hs.set i hs[k]).set k hs[i])) : MO X base e1 e2 w' ao cap ((hs.set i hs[k]).set k hs[i]) (swapL m i k) := by
  have hl := h.len
  refine h.perm (fun q => if q = k then i else if q = i then k else q) (fun q hq => ?_) (fun a b ha hb hab => ?_) (fun q hq => ?_) (by simp) (by simp [swapL]) (fun q hq hq' => ?_) (fun q hq hq' => ?_) hE ho
  · split
    · exact hi
    · split
      · exact hk
      · exact hq
  · split at hab <;> split at hab <;> (try split at hab) <;> (try split at hab) <;> omega
  · by_cases a : q = i
    · exact ⟨k, hk, by simp [a]⟩
    · by_cases b : q = k
      · refine ⟨i, hi, ?_⟩
        by_cases c : i = k
        · omega
        · simp [c, b]
      · exact ⟨q, hq, by simp [a, b]⟩
  · rw [hset_get hi hk hq]
    by_cases a : q = k
    · simp [a]
    · by_cases b : q = i
      · subst b; simp [a]
      · simp [a, b]
  · rw [swapL_get (by omega) (by omega) hq]
    by_cases a : q = k
    · simp [a]
    · by_cases b : q = i
      · subst b; simp [a]
      · simp [a, b]
end
section
variable {P : Program} {ops : Array Oper} {Q : Exit → Act → World → Prop} {rest : List Oper} {a : Act} {w : World}
variable {d : Option Tmp} {ty : TypeId} {ps : String} {af : Array Edge}
/-- 'x[i:]', with what its addresses are. -/
theorem st_fromA {t e by_ : Nat} {z : Value} {x lo : Operand} {k1 : IntKind} {m : Int} {ao : Option Addr} {cap : Nat} (T : SliceT P t e 1 by_ z) (n i : Nat) (hx : a.eval x = .slice ao n cap) (hlo : a.eval lo = .int k1 m) (hm : m = (i : Int)) (hd : Hd ao n) (hi : i ≤ n) (hc : n ≤ cap)
    (K : ∀ ao', (∀ k, k < n - i → adr ao' k = adr ao (i + k)) → Hd ao' (n - i) → wpList P ops Q rest (a.put d (.slice ao' (n - i) (cap - i))) w) :
    wpList P ops Q (⟨d, .slice t x (some lo) none none, ty, ps, af, none⟩ :: rest) a w := by
  refine wpList_plain rfl fun K' hK' => ?_
  subst hm
  have hr := run_slice_i (P := P) (ao := ao) T n cap k1 i hi hc w
  have := K (subAddr ao i cap 1) (fun k hk => by
    obtain ⟨b, off, rfl⟩ := hd (by omega)
    have hm : ¬ cap = i := by omega
    simp [subAddr, hm, Addr.add_lit, adr, Nat.add_assoc]) (fun hn => by
    obtain ⟨b, off, rfl⟩ := hd (by omega)
    have hm : ¬ cap = i := by omega
    exact ⟨b, off + i * 1, by simp [subAddr, hm, Addr.add_lit]⟩)
  unfold Oper.wp
  simp [execOp, hx, hlo, hr, Result.andThen]
  exact hK' _ _ this
end
end Go.Rep
