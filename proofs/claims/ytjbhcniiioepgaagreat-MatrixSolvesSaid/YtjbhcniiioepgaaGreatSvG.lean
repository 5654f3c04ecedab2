/- Rows exchanged, rows cleared: steps on matrices that a call has made itself. Conditions: none. matrix: echelon. Conditions: few rows and columns, numbers of at most 2^36 digits. matrix: reduce. Conditions: few rows and columns, numbers of at most 2^36 digits. copy into a row that a call has made itself. Conditions: none. The determinants and ranks that the program computes. Conditions: at most four rows for determinants. Rows turned as law 06 turns them. Conditions: none. matrix: dot. Conditions: few numbers of at most 2^36 digits. matrix: Apply, Mul. Conditions: few rows and columns, numbers of few digits. Bounds of determinants and products, for law 06. Conditions: none. The inverse that the program computes. Conditions: at most four rows where a determinant is spoken of. matrix: Inverse. Conditions: few rows, numbers of few digits. matrix: Rank, Det. Conditions: few rows and columns, numbers of few digits. matrix: what Apply, Mul, Rank, Det, Inverse do where the sizes do not fit. Conditions: lengths far below any machine's. matrix: Reduce. Conditions: few rows and columns, numbers of at most 2^36 digits. Solve, as lists. Conditions: none. matrix: Null; slices.Contains. Conditions: few rows and columns, numbers of few digits. reference 06: Dot. Conditions: few numbers of at most 2^36 digits. reference 06: Columns, Formed. Conditions: lengths far below any machine's. reference 06: Transpose, Apply, Mul. Conditions: few rows and columns, numbers of few digits. reference 06: Mul. Conditions: few rows and columns, numbers of few digits. The memory of the reference's elimination: rows, pivots, factor, and what each step leaves of them. Conditions: none. reference 06: what its elimination needs of plain lists. Conditions: none. A drawn region whose last operation waits for all others: the loads are taken first under a condition that need not hold behind the last operation. Conditions: none. -/
import Derived.Test.YtjbhcniiioepgaaGreatSvF
import Derived.OrdersHeld
import Derived.StillTail
import Derived.Deep.RegionHeld
import Derived.WalkKit
namespace Go.Lin
theorem getD_row {m : Mat} {i : Nat} (h : i < m.length) : m.getD i [] = m[i] := by simp [List.getD_eq_getElem?_getD, h]
theorem clear_zero (m : Mat) (t col : Nat) : clear m t col 0 = m := by
  unfold clear rows
  refine List.ext_getElem (by simp) fun q h1 h2 => ?_
  rw [List.getElem_mapIdx, if_neg (by omega)]
theorem clear_get {m : Mat} {t col s i : Nat} (h : i < (clear m t col s).length) (h2 : i < m.length) : (clear m t col s)[i] = if t < i ∧ i < t + 1 + s then elimL m[i] (m.getD t []) col else m[i] := by
  show (m.mapIdx _)[i]'(by simpa using h2) = _
  rw [List.getElem_mapIdx]
theorem clear_len (m : Mat) (t col s : Nat) : (clear m t col s).length = m.length := by simp [clear, rows]
theorem clear_set {m : Mat} {t col s : Nat} (h : t + 1 + s < m.length) : (clear m t col s).set (t + 1 + s) (elimL m[t + 1 + s] (m.getD t []) col) = clear m t col (s + 1) := by
  refine List.ext_getElem (by simp [clear_len]) fun q h1 h2 => ?_
  have hq : q < m.length := by rw [clear_len] at h2; exact h2
  rw [List.getElem_set, clear_get h2 hq]
  split
  · subst_vars; rw [if_pos (by omega)]
  · rw [clear_get (by simpa [clear_len] using hq) hq]
    by_cases a : t < q ∧ q < t + 1 + s
    · rw [if_pos a, if_pos (by omega)]
    · rw [if_neg a, if_neg (by omega)]
theorem clear_full {m : Mat} {t col s s' : Nat} (h : m.length ≤ t + 1 + s) (h' : m.length ≤ t + 1 + s') : clear m t col s = clear m t col s' := by
  refine List.ext_getElem (by simp [clear_len]) fun q h1 h2 => ?_
  have hq : q < m.length := by rw [clear_len] at h2; exact h2
  rw [clear_get h1 hq, clear_get h2 hq]
  by_cases a : t < q
  · rw [if_pos (by omega), if_pos (by omega)]
  · rw [if_neg (by omega), if_neg (by omega)]
theorem above_zero (m : Mat) (t col : Nat) : above m t col 0 = m := by
  unfold above rows
  refine List.ext_getElem (by simp) fun q h1 h2 => ?_
  rw [List.getElem_mapIdx, if_neg (by omega)]
theorem above_get {m : Mat} {t col s i : Nat} (h : i < (above m t col s).length) (h2 : i < m.length) : (above m t col s)[i] = if i < t ∧ i < s then elimL m[i] (m.getD t []) col else m[i] := by
  show (m.mapIdx _)[i]'(by simpa using h2) = _
  rw [List.getElem_mapIdx]
theorem above_len (m : Mat) (t col s : Nat) : (above m t col s).length = m.length := by simp [above, rows]
theorem above_set {m : Mat} {t col s : Nat} (h : s < m.length) (hst : s < t) : (above m t col s).set s (elimL m[s] (m.getD t []) col) = above m t col (s + 1) := by
  refine List.ext_getElem (by simp [above_len]) fun q h1 h2 => ?_
  have hq : q < m.length := by rw [above_len] at h2; exact h2
  rw [List.getElem_set, above_get h2 hq]
  split
  · subst_vars; rw [if_pos (by omega)]
  · rw [above_get (by simpa [above_len] using hq) hq]
    by_cases a : q < t ∧ q < s
    · rw [if_pos a, if_pos (by omega)]
    · rw [if_neg a, if_neg (by omega)]
end Go.Lin
namespace Go.Rep
open Go.RowKit Go.Lim Go.Lin
theorem obs_swap {hs : List Hdr} {i k : Nat} (hi : i < hs.length) (hk : k < hs.length) : obs ((hs.set i hs[k]).set k hs[i]) = obs hs := by
  funext b
  rw [Bool.eq_iff_iff]
  constructor
  · intro h
    obtain ⟨q, hq, h2⟩ := obs_of h
    simp only [List.length_set] at hq
    rw [List.getElem_set] at h2
    split at h2
    · exact obs_get hi h2
    · rw [List.getElem_set] at h2
      split at h2
      · exact obs_get hk h2
      · exact obs_get hq h2
  · intro h
    obtain ⟨q, hq, h2⟩ := obs_of h
    by_cases a : q = i
    · subst a
      refine obs_get (i := k) (by simpa using hk) ?_
      rw [List.getElem_set_self]; exact h2
    · by_cases b' : q = k
      · subst b'
        refine obs_get (i := i) (by simpa using hi) ?_
        rw [List.getElem_set_ne (by omega), List.getElem_set_self]; exact h2
      · refine obs_get (i := q) (by simpa using hq) ?_
        rw [List.getElem_set_ne (by omega), List.getElem_set_ne (by omega)]; exact h2
section
variable {X : Nat → Bool} {base : Nat} {e1 e2 : TypeId} {w w' : World} {ao : Option Addr} {cap : Nat} {hs : List Hdr} {m : List (List Rat)}
theorem swapL_get {m : Mat} {i k q : Nat} (hi : i < m.length) (hk : k < m.length) (hq : q < (swapL m i k).length) : (swapL m i k)[q] = if q = k then m[i] else if q = i then m[k] else m[q]'(by simpa [swapL] using hq) := by
  simp only [swapL, getD_row hi, getD_row hk]
  rw [List.getElem_set]
  by_cases a : k = q
  · rw [if_pos a, if_pos a.symm]
  · rw [if_neg a, if_neg (Ne.symm a), List.getElem_set]
    by_cases b : i = q
    · rw [if_pos b, if_pos b.symm]
    · rw [if_neg b, if_neg (Ne.symm b)]
theorem hset_get {hs : List Hdr} {i k q : Nat} (hi : i < hs.length) (hk : k < hs.length) (hq : q < ((hs.set i hs[k]).set k hs[i]).length) : ((hs.set i hs[k]).set k hs[i])[q] = if q = k then hs[i] else if q = i then hs[k] else hs[q]'(by simpa using hq) := by
  rw [List.getElem_set]
  by_cases a : k = q
  · rw [if_pos a, if_pos a.symm]
  · rw [if_neg a, if_neg (Ne.symm a), List.getElem_set]
    by_cases b : i = q
    · rw [if_pos b, if_pos b.symm]
    · rw [if_neg b, if_neg (Ne.symm b)]
theorem MO.swap (h : MO X base e1 e2 w ao cap hs m) {i k : Nat} (hi : i < hs.length) (hk : k < hs.length) (hE : ExtX (ob ao) w w') (ho : OL HdR 1 X base e1 w' ao cap ((hs.set i hs[k]).set k hs[i])) : MO X base e1 e2 w' ao cap ((hs.set i hs[k]).set k hs[i]) (swapL m i k) := by
  have hl := h.len
  refine h.perm (fun q => if q = k then i else if q = i then k else q) (fun q hq => ?_) (fun a b ha hb hab => ?_) (fun q hq => ?_) (by simp) (by simp [swapL]) (fun q hq hq' => ?_) (fun q hq hq' => ?_) hE ho
  · split
    · exact hi
    · split
      · exact hk
      · exact hq
  · split at hab <;> split at hab <;> (try split at hab) <;> (try split at hab) <;> omega
  · by_cases a : q = i
    · exact ⟨k, hk, by simp [a]⟩
    · by_cases b : q = k
      · refine ⟨i, hi, ?_⟩
        by_cases c : i = k
        · omega
        · simp [c, b]
      · exact ⟨q, hq, by simp [a, b]⟩
  · rw [hset_get hi hk hq]
    by_cases a : q = k
    · simp [a]
    · by_cases b : q = i
      · subst b; simp [a]
      · simp [a, b]
  · rw [swapL_get (by omega) (by omega) hq]
    by_cases a : q = k
    · simp [a]
    · by_cases b : q = i
      · subst b; simp [a]
      · simp [a, b]
end
section
variable {P : Program} {ops : Array Oper} {Q : Exit → Act → World → Prop} {rest : List Oper} {a : Act} {w : World}
variable {d : Option Tmp} {ty : TypeId} {ps : String} {af : Array Edge}
/-- 'x[i:]', with what its addresses are. -/
theorem st_fromA {t e by_ : Nat} {z : Value} {x lo : Operand} {k1 : IntKind} {m : Int} {ao : Option Addr} {cap : Nat} (T : SliceT P t e 1 by_ z) (n i : Nat) (hx : a.eval x = .slice ao n cap) (hlo : a.eval lo = .int k1 m) (hm : m = (i : Int)) (hd : Hd ao n) (hi : i ≤ n) (hc : n ≤ cap)
    (K : ∀ ao', (∀ k, k < n - i → adr ao' k = adr ao (i + k)) → Hd ao' (n - i) → wpList P ops Q rest (a.put d (.slice ao' (n - i) (cap - i))) w) :
    wpList P ops Q (⟨d, .slice t x (some lo) none none, ty, ps, af, none⟩ :: rest) a w := by
  refine wpList_plain rfl fun K' hK' => ?_
  subst hm
  have hr := run_slice_i (P := P) (ao := ao) T n cap k1 i hi hc w
  have := K (subAddr ao i cap 1) (fun k hk => by
    obtain ⟨b, off, rfl⟩ := hd (by omega)
    have hm : ¬ cap = i := by omega
    simp [subAddr, hm, Addr.add_lit, adr, Nat.add_assoc]) (fun hn => by
    obtain ⟨b, off, rfl⟩ := hd (by omega)
    have hm : ¬ cap = i := by omega
    exact ⟨b, off + i * 1, by simp [subAddr, hm, Addr.add_lit]⟩)
  unfold Oper.wp
  simp [execOp, hx, hlo, hr, Result.andThen]
  exact hK' _ _ this
end
end Go.Rep


namespace Go.Lin
theorem eN_succ (m : Mat) (k : Nat) : eN m (k + 1) = eStep (eN m k) k := rfl
/-- Bounds that an elimination wants. -/
theorem elim_bounds {n c B t i col : Nat} {m : Mat} (_hs : Shp n c m) (h : HB B m) (_ht : t < n) (_hi : i < n) (hB : 5 * B ≤ 68719476736) :
    Go.Rep.BR 68719476736 (m.getD i []) ∧ Go.Rep.BR 68719476736 (m.getD t []) ∧ Go.Lim.hq ((m.getD i []).getD col 0 / (m.getD t []).getD col 0) ≤ 68719476736 ∧ ∀ x ∈ m.getD t [], Go.Lim.hq ((m.getD i []).getD col 0 / (m.getD t []).getD col 0 * x) ≤ 68719476736 := by
  have hrow : ∀ k, Go.Rep.BR B (m.getD k []) := fun k q hq => by
    obtain ⟨j, hj, rfl⟩ := List.getElem_of_mem hq
    have e : (m.getD k []).getD j 0 = (m.getD k [])[j] := by rw [List.getD_eq_getElem?_getD, List.getElem?_eq_getElem hj]; rfl
    rw [← e]; exact h k j
  have h1 := h i col
  have h2 := h t col
  unfold ent at h1 h2
  have h3 := Go.Lim.hq_div ((m.getD i []).getD col 0) ((m.getD t []).getD col 0)
  refine ⟨fun q hq => Nat.le_trans (hrow i q hq) (by omega), fun q hq => Nat.le_trans (hrow t q hq) (by omega), by omega, fun x hx => ?_⟩
  have h4 := hrow t x hx
  have h5 := Go.Lim.hq_mul ((m.getD i []).getD col 0 / (m.getD t []).getD col 0) x
  omega
theorem HB.bm {B : Nat} {m : Mat} (h : HB B m) : Go.Rep.BM B m := fun r hr q hq => by
  obtain ⟨i, hi, rfl⟩ := List.getElem_of_mem hr
  obtain ⟨j, hj, rfl⟩ := List.getElem_of_mem hq
  have := h i j
  simpa [ent, List.getD_eq_getElem?_getD, hi, hj] using this
end Go.Lin
namespace Go.Rep
theorem Sl.fromA {α : Type} {R : Mem → Value → α → Prop} {h : Mem} {ao ao' : Option Addr} {l : List α} (s : Sl R 1 h ao l) (i : Nat) (ha : ∀ k, k < l.length - i → adr ao' k = adr ao (i + k)) (hd : Hd ao' (l.length - i)) : Sl R 1 h ao' (l.drop i) := by
  refine ⟨by rw [List.length_drop]; exact hd, fun k hk => ?_⟩
  rw [List.length_drop] at hk
  obtain ⟨u, h1, h2, h3⟩ := s.2 (i + k) (by omega)
  refine ⟨u, h1, fun j hj => ?_, by simpa using h3⟩
  have hj0 : j = 0 := by omega
  subst hj0
  have := h2 0 hj
  simp only [Nat.mul_one, Nat.add_zero] at this ⊢
  rw [ha k hk]; exact this
theorem map_adr {ao : Option Addr} {n i : Nat} (hd : Hd ao n) (hn : 0 < n) (k : Nat) : adr (Option.map (fun x => x.add i) ao) k = adr ao (i + k) := by
  obtain ⟨b, off, rfl⟩ := hd hn
  simp [Addr.add_lit, adr, Nat.add_assoc]
theorem NatIn.pure (k : IntKind) : ∀ h h' u x, NatIn k h u x → NatIn k h' u x := fun _ _ _ _ h => h
theorem map_hd {ao : Option Addr} {n i m : Nat} (hd : Hd ao n) (hn : 0 < n) : Hd (Option.map (fun x => x.add i) ao) m := fun _ => by
  obtain ⟨b, off, rfl⟩ := hd hn
  exact ⟨b, off + i, by simp [Addr.add_lit]⟩
end Go.Rep
namespace Go.Proofs.YtjbhcniiioepgaaGreat
open Go.RowKit Go.Rep Go.Lim Go.Lin

/-- What echelon leaves: the pivots, and the rows turned. -/
def ChOut (X : Nat → Bool) (base : Nat) (w : World) (ao : Option Addr) (cap : Nat) (hs : List Hdr) (s : St) (e : Ending) (w' : World) : Prop :=
  ExtX (mb ao hs) w w' ∧ ∃ po pc hs', e = .returned (.tuple #[.slice po s.2.1.length pc, .bool s.2.2]) ∧ mb ao hs' = mb ao hs ∧ MO (un X po) base 33 31 w' ao cap hs' s.1 ∧ OL (NatIn .i64) 1 (mz X ao hs) w.heap.size 3 w' po pc s.2.1

set_option maxRecDepth 100000 in
set_option maxHeartbeats 1600000 in
theorem echelon_any (X : Nat → Bool) (base : Nat) (w : World) (ao : Option Addr) (cap n c : Nat) (hs : List Hdr) (m : List (List Rat)) (hX : HX X w) (hM : MO X base 33 31 w ao cap hs m) (hsh : Shp n c m) (hc : colsL m = c) (hn : n ≤ 900) (hcc : c ≤ 900) (hT : TameE m c) :
    Calls Tryz.prog 95 #[.slice ao n cap] w (ChOut X base w ao cap hs (eN m c)) := by
  have hml := hid hsh.1
  have hmc : MC (mk X w) (.slice ao n cap) m := by have := hM.mc; rw [hml.out] at this; exact this
  have hcol := columns_any X w _ m hmc
  rw [hc] at hcol
  have hlen := hid (hM.len.trans hml.out)
  have hcap : n ≤ cap := by have := hM.capLen; rw [hml.out] at this; exact this
  have hhO : Hd ao n := by have := hM.outer.hd; rw [hlen.out] at this; exact this
  have hn0 : Hid (n = 0 → c = 0) := hid fun h => by
    have : m = [] := List.eq_nil_of_length_eq_zero (by rw [hml.out]; exact h)
    rw [← hc, this]; rfl
  have hsh' := hid hsh
  obtain ⟨B, hB7, hBj⟩ := hT
  have hB' := hid hBj
  have hBB' := hid hB7
  have hund : un X none = X := by funext k; simp [un, ob]
  have hMu : MO (un X none) base 33 31 w ao cap hs m := by rw [hund]; exact hM
  have hXz := hM.hz hX
  clear hsh hBj hB7 hc hmc
  go_enter Tryz.func95, Tryz.ntmps95
  go_wp2_with fail
  refine hcol.mono ?_
  rintro e w1 ⟨rfl, rfl⟩
  clear hcol
  go_wp2_with fail
  go_loopw [2, 3, 11] (fun p o k wr => ∃ (j : Nat) (po : Option Addr) (pc pl : Nat) (hs' : List Hdr) (M : Mat) (P : List Nat) (od : Bool), k = .int .i64 j ∧ p = .slice po pl pc ∧ o = .bool od ∧ j ≤ c ∧ Hid (P.length = pl) ∧ Hid (eN m j = (M, P, od)) ∧ Hid (j < c → pl < n) ∧ MO (un X po) base 33 31 wr ao cap hs' M ∧ OL (NatIn .i64) 1 (mz X ao hs) w1.heap.size 3 wr po pc P ∧ Hid (mb ao hs' = mb ao hs) ∧ ExtX (mb ao hs) w1 wr) (fun _ _ k _ => c - (intOf k).toNat)
  case atStart => exact ⟨0, none, 0, 0, hs, m, [], false, rfl, rfl, rfl, Nat.zero_le _, hid rfl, hid rfl, hid (fun h => by have := hn0.out; omega), hMu, OL.nil _ _ _ _ _ _, hid rfl, ExtX.refl _⟩
  case round =>
    obtain ⟨j, po, pc, pl, hs', M, P, od, rfl, rfl, rfl, hj, hpl, hst, hpn, hM, hP, hmb, hE⟩ := hrel
    by_cases hlj : j < c
    · have hpn2 := hpn.out hlj
      have hok := eN_ok hsh'.out j
      rw [hst.out] at hok
      have hshM : Shp n c M := hok.shp
      have hMl := hid hshM.1
      have hhl := hid (hM.len.trans hMl.out)
      have hXr : HX X wr := hX.ext hE
      have hXu : HX (un X po) wr := fun k hk => by
        by_cases hx : X k = true
        · exact hXr k hx
        · exact (hP.block (by simpa [un, hx] using hk)).2
      have hBM : HB B M := by have := hB'.out j (by omega); rw [hst.out] at this; exact this
      have hb5' : 5 * B ≤ 68719476736 := by have := hBB'.out; omega
      have hBM2 := hid (hBM.bm)
      have hEb : Ext wr (wr.alloc (.cells #[.int .i64 (j : Int)] 3)) := (ExtX.refl wr).alloc _
      have hbx : (wr.alloc (.cells #[.int .i64 (j : Int)] 3)).cell? ⟨wr.heap.size, 0, none⟩ = some (.int .i64 (j : Int)) := cell_new 0 rfl
      have hM1 := hM.ext0 hEb
      have hP1 := hP.ext0 (NatIn.elem _) hEb
      have hX1 := hXu.ext hEb
      have hSl : Sl RC 1 (mk (un X po) (wr.alloc (.cells #[.int .i64 (j : Int)] 3))) ao M := by
        obtain ⟨_, _, heq, _, h3⟩ := hM1.mc
        simp only [Value.slice.injEq] at heq
        obtain ⟨rfl, _, rfl⟩ := heq
        exact h3
      obtain ⟨bw, hbw⟩ : ∃ bw, wr.heap.size = bw := ⟨_, rfl⟩
      obtain ⟨w2, hw2⟩ : ∃ w2, wr.alloc (.cells #[.int .i64 (j : Int)] 3) = w2 := ⟨_, rfl⟩
      rw [hw2] at hEb hbx hM1 hP1 hX1 hSl
      rw [hbw] at hbx
      have hpbw : Hid (ob po bw = false) := hid (by rw [← hbw]; exact hP.ob_ge (Nat.le_refl _))
      have hobw : Hid (ob ao bw = false) := hid (by rw [← hbw]; exact hM.outer.ob_ge (Nat.le_refl _))
      have hw2' := hid hw2
      have hbw' := hid hbw
      have hn1 : 0 < n := by omega
      have hmd : Hid (n - pl = (M.drop pl).length) := hid (by rw [List.length_drop, hMl.out])
      have hSd : Sl RC 1 (mk (un X po) w2) (Option.map (fun x => x.add pl) ao) (M.drop pl) := hSl.fromA pl (fun k _ => map_adr hhO hn1 k) (map_hd hhO hn1)
      have hrows : Hid (∀ r ∈ M.drop pl, r.length = c) := hid fun r hr => hshM.2 r (List.mem_of_mem_drop hr)
      have hbmd : Hid (BM 68719476736 (M.drop pl)) := hid fun r hr q hq => Nat.le_trans (hBM2.out r (List.mem_of_mem_drop hr) q hq) (by omega)
      have hix := indexfunc_any (un X po) w2 _ (M.drop pl) (n - pl) (cap - pl) c j bw hX1 hSd hmd.out.symm (by omega) hrows.out hlj hbmd.out hbx
      obtain ⟨F, hF⟩ : ∃ F, (M.drop pl).findIdx? (fun r => decide (r.getD j 0 ≠ 0)) = F := ⟨_, rfl⟩
      rw [hF] at hix
      have hnz : Hid (nzAt M P.length j = F) := hid (by rw [hpl.out]; exact hF)
      clear hF hSd hSl
      go_wp2_with fail
      refine hix.mono ?_
      rintro e w3 ⟨hE3, rfl⟩
      have hM3 := hM1.ext0 hE3
      have hP3 := hP1.ext0 (NatIn.elem _) hE3
      have hb3 := hE3.cell hbx
      have hE03 := hE.trans (ExtX.of (hEb.trans hE3))
      clear hM1 hP1 hix hbx hw2
      match F, hnz with
      | none, hnz =>
        have hst2 : Hid (eN m (j + 1) = (M, P, od)) := hid (by
          rw [eN_succ, hst.out]; unfold eStep; dsimp only
          split
          · rfl
          · rw [hnz.out])
        simp only [idxI]
        go_wp2_with fail
        go_roundw
        case rel => exact ⟨j + 1, po, pc, pl, hs', M, P, od, by go_num, rfl, rfl, by omega, hpl, hst2, hid (fun _ => hpn2), hM3, hP3, hmb, hE03⟩
        case measure => simp [intOf]; omega
      | some q, hnz =>
        obtain ⟨hq1, hq2⟩ := nzAt_some hnz.out
        rw [hpl.out, hMl.out] at hq1
        have hq0 : ¬ (q : Int) < 0 := by omega
        simp only [idxI]
        clear hq2
        have hr1 : pl + q < hs'.length := by rw [hhl.out]; exact hq1
        have hr2 : pl < hs'.length := by rw [hhl.out]; exact hpn2
        obtain ⟨a1, n1, c1, hh1⟩ : ∃ a n c, hs'[pl] = (a, n, c) := ⟨_, _, _, rfl⟩
        obtain ⟨a2, n2, c2, hh2⟩ : ∃ a n c, hs'[pl + q] = (a, n, c) := ⟨_, _, _, rfl⟩
        have hO0 := hM3.outer
        obtain ⟨z1, zf1⟩ := hM3.hdr pl hr2
        obtain ⟨z2, zf2⟩ := hM3.hdr (pl + q) hr1
        rw [hh1] at z1
        rw [hh2] at z2
        dsimp only at z1 z2
        have k1 : w3.cell? (adr ao pl) = some (.slice a1 n1 c1) := z1
        have k2 : w3.cell? (adr ao (pl + q)) = some (.slice a2 n2 c2) := z2
        have f1 : w3.frozen? (adr ao pl) = false := zf1
        have f2 : w3.frozen? (adr ao (pl + q)) = false := zf2
        obtain ⟨hO1, hE4⟩ := hO0.set1 tyRats HdR.elem HdR.one pl hr2 (.slice a2 n2 c2) (a2, n2, c2) rfl
        obtain ⟨u3, k3, f3, hu3⟩ := hO1.cell HdR.one (pl + q) (by simpa using hr1)
        have hu3' : u3 = .slice a2 n2 c2 := by
          have e : (hs'.set pl (a2, n2, c2))[pl + q]'(by simpa using hr1) = (a2, n2, c2) := by
            rw [List.getElem_set]; split
            · rfl
            · exact hh2
          rw [e] at hu3; exact hu3
        rw [hu3'] at k3
        obtain ⟨hO2, hE5⟩ := hO1.set1 tyRats HdR.elem HdR.one (pl + q) (by simpa using hr1) (.slice a1 n1 c1) (a1, n1, c1) rfl
        have hE6 := (hE4.trans hE5).drew
        have hO2 := hO2.ext0 HdR.elem (ExtX.refl (Y := noY) _).drew
        rw [← hh1, ← hh2] at hO2
        have i1 : ∀ W, (Instr.indexAt 23 (.slice ao n cap) (.int .i64 (pl : Int))).run Tryz.prog W = .ok (.pointer (some (adr ao pl))) W := run_ix1 slRats ao n cap .i64 pl hhO (by omega) rfl
        have i2 : ∀ W, (Instr.indexAt 23 (.slice ao n cap) (.int .i64 ((pl : Int) + (q : Int)))).run Tryz.prog W = .ok (.pointer (some (adr ao (pl + q)))) W := run_ix1 slRats ao n cap .i64 (pl + q) hhO (by omega) (by omega)
        have ew : IntKind.i64.wrap ((pl : Int) + (q : Int)) = (pl : Int) + (q : Int) := IntWalk.i64_in _ (by omega)
        have hM5 := hM3.swap hr2 hr1 hE6 hO2
        have hX5 := hX1.ext hE3
        have hP5 : OL (NatIn .i64) 1 (mz X ao hs) w1.heap.size 3 _ po pc P := hP3.frame (NatIn.pure _) hE6 (fun k hk => by
          cases hb : ob ao k
          · rfl
          · have := (hM3.out_sep hb).1; rw [un_right hk] at this; simp at this) hP3.1
        have hb5 := hE6.cellY hb3 hobw.out
        clear hu3 hu3' hO0 hO1 hO2 z1 z2 zf1 zf2 hh1 hh2 hE4 hE5
        go_wp2_with fail
        go_region
        obtain ⟨w5, hw5⟩ : ∃ w5, ((w3.setCell (adr ao pl) (.slice a2 n2 c2)).setCell (adr ao (pl + q)) (.slice a1 n1 c1)).drew = w5 := ⟨_, rfl⟩
        rw [hw5] at hM5 hP5 hb5 hE6 ⊢
        have hE05 := hE03.trans (ExtX.weaken hE6 fun k _ hk => (ob_mb hk).1)
        have hX5 := hX5.ext hE6
        have hXz5 := hXz.ext hE05
        have hbase5 := hE05.size
        clear k1 k2 k3 f1 f2 f3 i1 i2 hw5 hb3
        have hpl5 : pl + 1 ≤ n := hpn2
        go_wp2_with (first | ((with_reducible show wpList _ _ _ (⟨_, .slice _ _ _ _ _, _, _, _, _⟩ :: _) _ _); refine st_fromA slRats n (pl + 1) rfl rfl (by omega) hhO hpl5 hcap ?_; intro ao3 ha3 hd3; replace ha3 := hid ha3) | (at_builtin; refine st_append1n (l := P) slInt rfl (NatIn.elem .i64) hbase5 hXz5 pl hpl.out rfl rfl hP5 (.int .i64 (j : Int)) j rfl rfl (by omega) (by omega) ?_; intro po2 pc2 w6 hP6 hE7 hor; have b6 := hE7.cellY hb5 hpbw.out))
        have hM6 : MO (un X po2) base 33 31 w6 ao cap _ _ := hM5.ext (X' := un X po2) hE7 (fun k _ hk => un_right hk) (fun k hk hz => by
          by_cases hx : X k = true
          · exact un_left hx
          · have h2 : ob po2 k = true := by simpa [un, hx] using hz
            rcases hor with rfl | ⟨g, rfl, hg⟩
            · exact un_right h2
            · have : g = k := by simpa [ob] using h2
              omega)
        have hE06 : ExtX (mb ao hs) w1 w6 := hE05.then_ hE7 fun k hk _ => hP5.ob_lt hk
        have hmb2 : Hid (mb ao ((hs'.set pl hs'[pl + q]).set (pl + q) hs'[pl]) = mb ao hs) := hid (by rw [← hmb.out]; exact (obs_congr (X := X) fun k => by rw [obs_swap hr2 hr1]).1)
        have hh2l : Hid (((hs'.set pl hs'[pl + q]).set (pl + q) hs'[pl]).length = n) := hid (by simp [hhl.out])
        have hsh2 : Shp n c (swapL M pl (pl + q)) := hshM.swap hpn2 hq1
        have hBM2' : HB B (swapL M pl (pl + q)) := hBM.swap hshM hpn2 hq1
        have hst2 : Hid (eN m (j + 1) = (clear (swapL M pl (pl + q)) pl j n, P ++ [j], od != decide (q ≠ 0))) := hid (by
          rw [eN_succ, hst.out]; unfold eStep; dsimp only
          rw [if_neg (by rw [hpl.out, hMl.out]; omega), hnz.out]
          dsimp only
          rw [hpl.out, hMl.out])
        have hbnd : Hid (∀ i, i < n → BR 68719476736 ((swapL M pl (pl + q)).getD i []) ∧ BR 68719476736 ((swapL M pl (pl + q)).getD pl []) ∧ hq (((swapL M pl (pl + q)).getD i []).getD j 0 / ((swapL M pl (pl + q)).getD pl []).getD j 0) ≤ 68719476736 ∧ ∀ x ∈ (swapL M pl (pl + q)).getD pl [], hq (((swapL M pl (pl + q)).getD i []).getD j 0 / ((swapL M pl (pl + q)).getD pl []).getD j 0 * x) ≤ 68719476736) := hid fun i hi => elim_bounds hsh2 hBM2' hpn2 hi hb5'
        have hmbw : Hid (mb ao hs bw = false) := hid (by
          rw [← hmb.out]
          cases hb : mb ao hs' bw
          · rfl
          · have := (hM.mb_block hb).2; omega)
        obtain ⟨hs2, hhs2⟩ : ∃ hs2, (hs'.set pl hs'[pl + q]).set (pl + q) hs'[pl] = hs2 := ⟨_, rfl⟩
        obtain ⟨M2, hM2⟩ : ∃ M2, swapL M pl (pl + q) = M2 := ⟨_, rfl⟩
        rw [hhs2] at hM6 hmb2 hh2l
        rw [hM2] at hM6 hsh2 hBM2' hst2 hbnd
        clear hhs2 hM2
        have hM2l := hid hsh2.1
        have hX6 : HX X w6 := hX.ext hE06
        have hM6' : MO (un X po2) base 33 31 w6 ao cap hs2 (clear M2 pl j 0) := by rw [clear_zero]; exact hM6
        go_loopw [54] (fun k wx => ∃ (s : Nat), k = .int .i64 s ∧ s ≤ n - (pl + 1) ∧ MO (un X po2) base 33 31 wx ao cap hs2 (clear M2 pl j s) ∧ OL (NatIn .i64) 1 (mz X ao hs) w1.heap.size 3 wx po2 pc2 (P ++ [j]) ∧ ExtX (mb ao hs) w1 wx ∧ wx.cell? ⟨bw, 0, none⟩ = some (.int .i64 (j : Int))) (fun k _ => n - (pl + 1) - (intOf k).toNat)
        case atStart => exact ⟨0, rfl, Nat.zero_le _, hM6', hP6, hE06, b6⟩
        case round =>
          obtain ⟨s, rfl, hs9, hM8, hP8, hE8, b8⟩ := hrel
          by_cases hls : s < n - (pl + 1)
          · obtain ⟨t, ht⟩ : ∃ t, pl + 1 + s = t := ⟨_, rfl⟩
            have htn : t < n := by omega
            have hth : t < hs2.length := by rw [hh2l.out]; exact htn
            have hph : pl < hs2.length := by rw [hh2l.out]; exact hpn2
            have htm : t < M2.length := by rw [hM2l.out]; exact htn
            have hpm : pl < M2.length := by rw [hM2l.out]; exact hpn2
            have htc : t < (clear M2 pl j s).length := by rw [clear_len]; exact htm
            have hpc : pl < (clear M2 pl j s).length := by rw [clear_len]; exact hpm
            obtain ⟨a1, n1, c1, hh1⟩ : ∃ a n c, hs2[t] = (a, n, c) := ⟨_, _, _, rfl⟩
            obtain ⟨a2, n2, c2, hh2⟩ : ∃ a n c, hs2[pl] = (a, n, c) := ⟨_, _, _, rfl⟩
            have hg1 : (clear M2 pl j s)[t] = M2[t] := by rw [clear_get htc htm, if_neg (by omega)]
            have hg2 : (clear M2 pl j s)[pl] = M2[pl] := by rw [clear_get hpc hpm, if_neg (by omega)]
            have hn1' : n1 = c := by
              have := hM8.rlen t hth htc
              rw [hh1, hg1, hsh2.2 _ (List.getElem_mem _)] at this; exact this
            have hn2' : n2 = c := by
              have := hM8.rlen pl hph hpc
              rw [hh2, hg2, hsh2.2 _ (List.getElem_mem _)] at this; exact this
            subst hn1'
            subst hn2'
            have hR1 := hM8.row t hth htc
            have hR2 := hM8.row pl hph hpc
            rw [hg1] at hR1
            rw [hg2] at hR2
            simp only [hh1] at hR1
            simp only [hh2] at hR2
            have hz1 := fun k (hk : ob a1 k = true) => hM8.mz_sub hth k (by rw [hh1]; exact hk)
            have hz2 := fun k (hk : ob a2 k = true) => hM8.mz_sub hph k (by rw [hh2]; exact hk)
            have hds : ∀ k, ob a1 k = true → ob a2 k = false := fun k hk => by
              have := hM8.dis t pl hth hph (by omega) k (by rw [hh1]; exact hk)
              rw [hh2] at this; exact this
            have hsp := fun k (hk : ob a1 k = true) => hM8.sep t hth k (by rw [hh1]; exact hk)
            have hBn := hbnd.out t htn
            rw [getD_row htm] at hBn
            have hcs : Hid ((clear M2 pl j s).set t (elimL M2[t] (M2.getD pl []) j) = clear M2 pl j (s + 1)) := hid (by subst ht; exact clear_set htm)
            have hpe : M2.getD pl [] = M2[pl] := getD_row hpm
            rw [← hpe] at hR2
            have hrl1 := hid (hsh2.2 M2[t] (List.getElem_mem _))
            have hrl2 := hid (show (M2.getD pl []).length = n2 by rw [hpe]; exact hsh2.2 _ (List.getElem_mem _))
            obtain ⟨row, hrow⟩ : ∃ row, M2[t] = row := ⟨_, rfl⟩
            obtain ⟨piv, hpiv⟩ : ∃ piv, M2.getD pl [] = piv := ⟨_, rfl⟩
            rw [hrow, hpiv] at hcs
            rw [hrow] at hR1 hrl1
            rw [hpiv] at hR2 hrl2
            rw [hrow, hpiv] at hBn
            have hX8 : HX (un X po2) wr := fun k hk => by
              by_cases hx : X k = true
              · exact hX.ext hE8 k hx
              · exact (hP8.block (by simpa [un, hx] using hk)).2
            have hZ8 := hM8.hz hX8
            have hEd : Ext wr wr.drew := (ExtX.refl wr).drew
            have hel := eliminate_any (mz (un X po2) ao hs2) base wr.drew a1 a2 c1 c2 n2 j row piv hZ8 (hR1.ext0 QC.elem hEd) (hR2.ext0 QC.elem hEd) hz1 hz2 hds hrl1.out hrl2.out (by omega) hlj hBn.1 hBn.2.1 hBn.2.2.1 hBn.2.2.2
            have y1 : wr.cell? (adr ao3 s) = some (.slice a1 n2 c1) := by
              have := (hM8.hdr t hth).1
              rw [hh1, ← ht] at this
              rw [ha3.out s hls]; exact this
            have y2 : wr.drew.cell? (adr ao pl) = some (.slice a2 n2 c2) := by
              have := (hM8.hdr pl hph).1
              rw [hh2] at this
              exact this
            have y3 : wr.drew.cell? ⟨bw, 0, none⟩ = some (.int .i64 (j : Int)) := b8
            have haob : Hid (ob a1 (adr ao pl).block = false) := hid (by
              cases hb : ob a1 (adr ao pl).block
              · rfl
              · have h1 := (hsp _ hb).2
                obtain ⟨b0, o0, rfl⟩ := hhO (by omega)
                simp [ob, adr] at h1)
            have habw : Hid (ob a1 bw = false) := hid (by
              cases hb : ob a1 bw
              · rfl
              · have h5 : mb ao hs2 bw = true := mb_iff.2 (.inr (obs_get hth (show ob hs2[t].1 bw = true by rw [hh1]; exact hb)))
                rw [hmb2.out, hmbw.out] at h5; simp at h5)
            have i1 : ∀ W, (Instr.indexAt 23 (.slice ao n cap) (.int .i64 (pl : Int))).run Tryz.prog W = .ok (.pointer (some (adr ao pl))) W := run_ix1 slRats ao n cap .i64 pl hhO (by omega) rfl
            have hh1' := hid hh1
            replace ht := hid ht
            clear hg1 hg2 hpe hrow hpiv hh1 hh2 hR1 hR2 hBn
            go_wp2_with (with_reducible refine up_ix1 slRats (by omega) (by assumption) ?_)
            go_region_held3 (fun w' => w'.cell? (adr ao pl) = some (.slice a2 n2 c2) ∧ w'.cell? ⟨bw, 0, none⟩ = some (.int .i64 (j : Int)))
              (first | exact ⟨t1.cellY y2 haob.out, t1.cellY y3 habw.out⟩ | go_keep)
              ((go_at_call 136; (with_reducible refine hel.mono ?_); rintro ee w7 ⟨rfl, t1, hO7⟩))
            have b9 := t1.cellY y3 habw.out
            have hEr : ExtX (ob hs2[t].1) wr.drew w7 := by rw [hh1'.out]; exact t1
            have hM9 := (hM8.ext0 hEd).upd hth (l := elimL row piv j) hEr (fun hi' => by
              rw [clear_get htc htm, if_neg (by have := ht.out; omega), elimL_len _ _ _ (by rw [hrl1.out, hrl2.out]), hrl2.out]
              exact (hsh2.2 _ (List.getElem_mem _)).symm) (by rw [hh1'.out]; exact hO7)
            rw [hcs.out] at hM9
            have hP9 := (hP8.ext0 (NatIn.elem _) hEd).frame (NatIn.pure _) t1 (fun k hk => by
              cases hb : ob a1 k
              · rfl
              · have := (hsp k hb).1; rw [un_right hk] at this; simp at this) hP8.1
            have hE9 := (hE8.trans (ExtX.of hEd)).trans (by rw [← hmb2.out]; exact ExtX.row hth hEr)
            clear y1 y2 y3 i1
            go_wp2_with fail
            go_roundw
            case rel => exact ⟨s + 1, by go_num, by omega, hM9, hP9, hE9, b9⟩
            case measure => simp [intOf]; omega
          · have hfin : Hid (clear M2 pl j s = clear M2 pl j n) := hid (clear_full (by rw [hM2l.out]; omega) (by rw [hM2l.out]; omega))
            rw [hfin.out] at hM8
            have hodd : Hid ((!(od == ((q : Int) != 0))) = (od != decide (q ≠ 0))) := hid (by cases od <;> by_cases h : q = 0 <;> simp [h])
            have hpl2 : Hid ((P ++ [j]).length = pl + 1) := hid (by simp [hpl.out])
            by_cases hfull : pl + 1 = n
            · have hne : (((pl + 1 : Nat) : Int) == (n : Int)) = true := beqT (by omega)
              have hne2 : (((pl : Int) + 1) == (n : Int)) = true := beqT (by omega)
              have hstop : Hid (eN m c = (clear M2 pl j n, P ++ [j], od != decide (q ≠ 0))) := hid (by
                rw [eN_stop m (j + 1) (by rw [hst2.out]; dsimp only; rw [hpl2.out, clear_len, hM2l.out]; exact hfull) c (by omega)]; exact hst2.out)
              clear hfull
              go_wp2_with fail
              go_ret2
              rw [hstop.out]
              exact ⟨hE8, po2, pc2, hs2, by rw [hpl2.out, ← hodd.out]; rfl, hmb2.out, hM8, hP8⟩
            · have hne : (((pl + 1 : Nat) : Int) == (n : Int)) = false := beqF (by omega)
              have hne2 : (((pl : Int) + 1) == (n : Int)) = false := beqF (by omega)
              have hpn3 : Hid (j + 1 < c → pl + 1 < n) := hid fun _ => by omega
              clear hfull
              go_wp2_with fail
              go_roundw
              case rel => exact ⟨j + 1, po2, pc2, pl + 1, hs2, _, _, _, by go_num, rfl, by rw [hodd.out], by omega, hpl2, hst2, hpn3, hM8, hP8, hmb2, hE8⟩
              case measure => simp [intOf]; omega
    · have hjc : j = c := by omega
      subst hjc
      go_wp2_with fail
      go_ret2
      rw [hst.out]
      exact ⟨hE, po, pc, hs', by rw [hpl.out]; rfl, hmb.out, hM, hP⟩
end Go.Proofs.YtjbhcniiioepgaaGreat


namespace Go.Lin
/-- Bounds that the second phase wants. -/
theorem elim_bounds2 {n c B t i col : Nat} {m : Mat} (hs : Shp n c m) (h : HB B m) (ht : t < n) (_hi : i < n) (hit : i ≠ t) (hB : 7 * B ≤ 68719476736) :
    Go.Rep.BR 68719476736 ((divL m t col).getD i []) ∧ Go.Rep.BR 68719476736 ((divL m t col).getD t []) ∧ Go.Lim.hq (((divL m t col).getD i []).getD col 0 / ((divL m t col).getD t []).getD col 0) ≤ 68719476736 ∧ ∀ x ∈ (divL m t col).getD t [], Go.Lim.hq (((divL m t col).getD i []).getD col 0 / ((divL m t col).getD t []).getD col 0 * x) ≤ 68719476736 := by
  have h2 := h.divL hs ht col
  have hrow : ∀ k, Go.Rep.BR (2 * B) ((divL m t col).getD k []) := fun k q hq => by
    obtain ⟨j, hj, rfl⟩ := List.getElem_of_mem hq
    have e : ((divL m t col).getD k []).getD j 0 = ((divL m t col).getD k [])[j] := by rw [List.getD_eq_getElem?_getD, List.getElem?_eq_getElem hj]; rfl
    rw [← e]; exact h2 k j
  have h1 : Go.Lim.hq (((divL m t col).getD i []).getD col 0) ≤ B := by
    have := ent_divL hs ht col i col
    rw [if_neg hit] at this
    unfold ent at this
    rw [this]; exact h i col
  have h3 : Go.Lim.hq (((divL m t col).getD t []).getD col 0) ≤ 2 * B := h2 t col
  have h4 := Go.Lim.hq_div (((divL m t col).getD i []).getD col 0) (((divL m t col).getD t []).getD col 0)
  refine ⟨fun q hq => Nat.le_trans (hrow i q hq) (by omega), fun q hq => Nat.le_trans (hrow t q hq) (by omega), by omega, fun x hx => ?_⟩
  have h5 := hrow t x hx
  have h6 := Go.Lim.hq_mul (((divL m t col).getD i []).getD col 0 / ((divL m t col).getD t []).getD col 0) x
  omega
end Go.Lin
namespace Go.Rep
theorem run_slice_to {P : Program} {t e sz by_ : Nat} {z : Value} {ao : Option Addr} (T : SliceT P t e sz by_ z) (len cap : Nat) (k1 : IntKind) (i : Nat) (h1 : i ≤ cap) (w : World) :
    (Instr.sliceAt t (.slice ao len cap) none (some (.int k1 (i : Int))) none).run P w = .ok (.slice ao i cap) w := by
  obtain ⟨ti, hi, hz, hsz, hby⟩ := info_parts T.info
  have h1' : (i : Int) ≤ cap := by omega
  cases ao <;> simp [Instr.sliceAt, Instr.slice, run_underlying T.und, Instr.sliceBounds, run_sliceBound, h1', sizeOf, typeInfo, hi, Addr.add_zero']
end Go.Rep
namespace Go.Proofs.YtjbhcniiioepgaaGreat
open Go.RowKit Go.Rep Go.Lim Go.Lin

/-- What reduce leaves: the pivots, and the rows turned. -/
def RdOut (X : Nat → Bool) (base : Nat) (w : World) (ao : Option Addr) (cap : Nat) (hs : List Hdr) (s : Mat × List Nat) (e : Ending) (w' : World) : Prop :=
  ExtX (mb ao hs) w w' ∧ ∃ po pc hs', e = .returned (.slice po s.2.length pc) ∧ mb ao hs' = mb ao hs ∧ MO (un X po) base 33 31 w' ao cap hs' s.1 ∧ OL (NatIn .i64) 1 (mz X ao hs) w.heap.size 3 w' po pc s.2

set_option maxRecDepth 100000 in
set_option maxHeartbeats 1600000 in
theorem mreduce_any (X : Nat → Bool) (base : Nat) (w : World) (ao : Option Addr) (cap n c : Nat) (hs : List Hdr) (m : List (List Rat)) (hX : HX X w) (hM : MO X base 33 31 w ao cap hs m) (hsh : Shp n c m) (hc : colsL m = c) (hn : n ≤ 900) (hcc : c ≤ 900) (hT : Tame m c) :
    Calls Tryz.prog 85 #[.slice ao n cap] w (RdOut X base w ao cap hs (redP m c)) := by
  have hech := echelon_any X base w ao cap n c hs m hX hM hsh hc hn hcc hT.e
  obtain ⟨B, hB7, _, hBt⟩ := hT
  have hok := eN_ok hsh c
  have hcap : n ≤ cap := by have := hM.capLen; rw [hsh.1] at this; exact this
  have hhO : Hd ao n := by have := hM.outer.hd; rw [hM.len, hsh.1] at this; exact this
  have hred : redP m c = (dN (eN m c).1 (eN m c).2.1 (eN m c).2.1.length, (eN m c).2.1) := rfl
  obtain ⟨⟨E, p, od⟩, hS⟩ : ∃ S, eN m c = S := ⟨_, rfl⟩
  rw [hS] at hech hok hBt hred
  rw [hred]
  dsimp only at hBt ⊢
  obtain ⟨pl, hpl⟩ : ∃ pl, p.length = pl := ⟨_, rfl⟩
  have hEs : Shp n c E := hok.shp
  have hEe : Ech n c (ent E) p := hok.ech
  have hpn : pl ≤ n := by have := hEe.le; omega
  have hDok := hid (dN_ok hEs hEe)
  have hDB : Hid (∀ t, t ≤ p.length → HB B (dN E p t)) := hid hBt
  have hDb := hid hB7
  have hplt : Hid (∀ i (hi : i < p.length), p[i] < c) := hid hEe.lt
  have hpl' := hid hpl
  have hn0 : Hid (HX X w) := hid hX
  clear hsh hBt hB7 hred hS hok hEe hc
  go_enter Tryz.func85, Tryz.ntmps85
  go_wp2_with fail
  refine hech.mono ?_
  rintro e w1 ⟨hE1, po, pc, hs', rfl, hmb, hM1, hP1⟩
  dsimp only at hM1 hP1 ⊢
  rw [hpl]
  have hmb' := hid hmb
  have hlen := hid (hM1.len.trans hEs.1)
  have hdP : Hd po pl := by have := hP1.hd; rw [hpl] at this; exact this
  clear hech hmb hpl hM
  go_wp2_with fail
  go_loopw [19] (fun k wr => ∃ (i : Nat), k = .int .i64 i ∧ i ≤ pl ∧ MO (un X po) base 33 31 wr ao cap hs' (dN E p i) ∧ OL (NatIn .i64) 1 (mz X ao hs) w.heap.size 3 wr po pc p ∧ ExtX (mb ao hs) w wr) (fun k _ => pl - (intOf k).toNat)
  case atStart => exact ⟨0, rfl, Nat.zero_le _, hM1, hP1, hE1⟩
  case round =>
    obtain ⟨i, rfl, hi, hM, hP, hE⟩ := hrel
    by_cases hlt : i < pl
    · have hip : i < p.length := by rw [hpl'.out]; exact hlt
      have hin : i < n := by omega
      have hcl := hplt.out i hip
      have hPs := (hP.sl (NatIn.elem _)).nat i hip
      have hD := hDok.out i (by rw [hpl'.out]; omega)
      have hDBi := hDB.out i (by rw [hpl'.out]; omega)
      have hDbi := hDb.out
      have hgd : Hid (p.getD i 0 = p[i]) := hid (by simp [List.getD_eq_getElem?_getD, hip])
      have hdn : Hid (dN E p (i + 1) = dStep (dN E p i) i p[i]) := hid (by rw [← hgd.out]; rfl)
      obtain ⟨D, hDe⟩ : ∃ D, dN E p i = D := ⟨_, rfl⟩
      obtain ⟨col, hcole⟩ : ∃ col, p[i] = col := ⟨_, rfl⟩
      rw [hDe] at hM hD hDBi hdn
      rw [hcole] at hPs hcl hdn
      have hDs : Shp n c D := hD.shp
      have hDl := hid hDs.1
      have hih : i < hs'.length := by rw [hlen.out]; exact hin
      have hiD : i < D.length := by rw [hDl.out]; exact hin
      obtain ⟨a, na, cr, hhd⟩ : ∃ a na cr, hs'[i] = (a, na, cr) := ⟨_, _, _, rfl⟩
      obtain ⟨row, hrow⟩ : ∃ row, D[i] = row := ⟨_, rfl⟩
      have hrl : Hid (row.length = c) := hid (by rw [← hrow]; exact hDs.2 _ (List.getElem_mem _))
      have hna : na = c := by
        have := hM.rlen i hih hiD
        rw [hhd, hrow, hrl.out] at this; exact this
      subst hna
      have hR := hM.row i hih hiD
      rw [hrow] at hR
      simp only [hhd] at hR
      have hz1 := fun k (hk : ob a k = true) => hM.mz_sub hih k (by rw [hhd]; exact hk)
      have hsp := fun k (hk : ob a k = true) => hM.sep i hih k (by rw [hhd]; exact hk)
      have hda : Hd a na := by have := hR.hd; rw [hrl.out] at this; exact this
      have hun : Hid (un (cut (mz (un X po) ao hs') a) a = mz (un X po) ao hs') := hid (un_cut hz1)
      have haob : Hid (ob a (adr ao i).block = false) := hid (by
        cases hb : ob a (adr ao i).block
        · rfl
        · have h1 := (hsp _ hb).2
          obtain ⟨b0, o0, rfl⟩ := hhO (by omega)
          simp [ob, adr] at h1)
      have y1 : wr.cell? (adr ao i) = some (.slice a na cr) := by
        have := (hM.hdr i hih).1
        rw [hhd] at this; exact this
      have hcr : col < row.length := by rw [hrl.out]; exact hcl
      have hby : Hid (row[col] = ent D i col) := hid (by
        unfold ent; rw [getD_row hiD]; simp [hrow, List.getD_eq_getElem?_getD, hcr])
      obtain ⟨by_, hbye⟩ : ∃ b, ent D i col = b := ⟨_, rfl⟩
      have hbq : Hid (hq by_ ≤ 68719476736) := hid (by rw [← hbye]; exact Nat.le_trans (hDBi i col) (by omega))
      have hBrow : Hid (BR 68719476736 row) := hid fun q hq => by
        obtain ⟨x, hx, rfl⟩ := List.getElem_of_mem hq
        have := hDBi.bm D[i] (List.getElem_mem _) row[x] (by rw [hrow]; exact List.getElem_mem _)
        omega
      have hdiv : Hid (D.set i (row.map (· / by_)) = divL D i col) := hid (by
        unfold divL; rw [getD_row hiD, hrow, hbye])
      rw [hbye] at hby
      have bx := Bx.new wr #[.bool false, .slice none 0 0, .slice none 0 0] 31
      have hhd' := hid hhd
      have hrow' := hid hrow
      clear hhd hrow hDe hcole hbye
      go_wp2_with (first | (with_reducible refine up_ix1 slInt (by omega) (by assumption) ?_) | (with_reducible refine up_ix1 slRats (by omega) (by assumption) ?_) | (with_reducible refine up_ixn slRat (by omega) (by assumption) ?_) | ((with_reducible show wpList _ _ _ (⟨_, .load 31 _, _, _, _, _⟩ :: _) _ _); refine st_loadOL stRat col hR hcr rfl (by simp) QC.agg ?_; intro u5 hu5; rw [hby.out, hun.out] at hu5; obtain ⟨s5, a5, n5, c5, d5, k5, e5, rfl⟩ := hu5.shape) | ((with_reducible show wpList _ _ _ (⟨_, .store _ _ _, _, _, _, _⟩ :: _) _ _); refine st_storeBox stRat rfl rfl bx rfl rfl (one3 _ _ _ _ _ _ _) ?_; intro w5 r1 r2; have y2 := (ExtX.box ((ExtX.refl wr).alloc _) r2 (Nat.le_refl _) : Ext wr w5).cell y1))
      have hE5 : Ext wr w5 := ExtX.box ((ExtX.refl wr).alloc _) r2 (Nat.le_refl _)
      have hM5 := hM.ext0 hE5
      have hP5 := hP.ext0 (NatIn.elem _) hE5
      have hq5 : QV (mk (mz (un X po) ao hs') w5) (.agg #[.bool s5, .slice a5 n5 c5, .slice d5 k5 e5]) by_ := (mkx QC.mono hu5 hE5).qv hbq.out
      have hE15 := hE.trans (ExtX.of (Y := mb ao hs) hE5)
      obtain ⟨bb, hbb⟩ : ∃ bb, wr.heap.size = bb := ⟨_, rfl⟩
      rw [hbb] at r1 ⊢
      have hmbb : Hid (mb ao hs bb = false) := hid (by
        rw [← hmb'.out]
        cases hb : mb ao hs' bb
        · rfl
        · have := (hM.mb_block hb).2; omega)
      obtain ⟨R, hRe⟩ : ∃ R, row.map (· / by_) = R := ⟨_, rfl⟩
      have hRl : Hid (R.length = na) := hid (by rw [← hRe, List.length_map]; exact hrl.out)
      have hRr : Hid (R.length = row.length) := hid (by rw [hRl.out, hrl.out])
      have hRj : Hid (∀ j (h1 : j < row.length) (h2 : j < R.length), R[j] = row[j] / by_) := hid fun j h1 h2 => by subst hRe; simp
      rw [hRe] at hdiv
      have hM5' : MO (un X po) base 33 31 w5 ao cap hs' (D.set i (mix R row 0)) := by
        rw [mix_zero, ← hrow'.out, List.set_getElem_self]; exact hM5
      clear hR hRe bx y1 y2 hM5 hu5 hM hP
      go_loopw [36] (fun k wx => ∃ (j : Nat), k = .int .i64 j ∧ j ≤ na ∧ MO (un X po) base 33 31 wx ao cap hs' (D.set i (mix R row j)) ∧ OL (NatIn .i64) 1 (mz X ao hs) w.heap.size 3 wx po pc p ∧ Bx wx bb #[.bool s5, .slice a5 n5 c5, .slice d5 k5 e5] 31 ∧ QV (mk (mz (un X po) ao hs') wx) (.agg #[.bool s5, .slice a5 n5 c5, .slice d5 k5 e5]) by_ ∧ ExtX (mb ao hs) w wx) (fun k _ => na - (intOf k).toNat)
      case atStart => exact ⟨0, rfl, Nat.zero_le _, hM5', hP5, r1, hq5, hE15⟩
      case round =>
        obtain ⟨j, rfl, hj, hM, hP, hB7, hq7, hE⟩ := hrel
        by_cases hlj : j < na
        · have hjr : j < row.length := by rw [hrl.out]; exact hlj
          have hjR : j < R.length := by rw [hRl.out]; exact hlj
          have hml : Hid ((mix R row j).length = na) := hid (by rw [mix_len hRr.out, hRl.out])
          have hjm : j < (mix R row j).length := by rw [hml.out]; exact hlj
          have hmg : Hid ((mix R row j)[j] = row[j]) := hid (by rw [mix_getElem hRr.out, if_neg (by omega)])
          have hjs : Hid ((mix R row j).set j R[j] = mix R row (j + 1)) := hid (mix_set hRr.out hjR)
          have hRjj := hid (hRj.out j hjr hjR)
          have hbr := hid (hBrow.out row[j] (List.getElem_mem _))
          have hset9 : Hid (i < (D.set i (mix R row j)).length) := hid (by rw [List.length_set]; exact hiD)
          have hR := hM.row i hih hset9.out
          rw [List.getElem_set_self] at hR
          simp only [hhd'.out] at hR
          obtain ⟨x, hx⟩ : ∃ x, row[j] = x := ⟨_, rfl⟩
          obtain ⟨v, hv⟩ : ∃ v, R[j] = v := ⟨_, rfl⟩
          rw [hx] at hmg hbr hRjj
          rw [hv] at hjs hRjj
          have hXr : HX X wr := hn0.out.ext hE
          have hXu : HX (un X po) wr := fun k hk => by
            by_cases hx : X k = true
            · exact hXr k hx
            · exact (hP.block (by simpa [un, hx] using hk)).2
          have hXz := hM.hz hXu
          obtain ⟨g, o, hg⟩ : ∃ g o, adr a (j * 3) = ⟨g, o, none⟩ := ⟨_, _, rfl⟩
          have i1 : ∀ W, (Instr.indexAt 23 (.slice ao n cap) (.int .i64 (i : Int))).run Tryz.prog W = .ok (.pointer (some (adr ao i))) W := run_ix1 slRats ao n cap .i64 i hhO (by omega) rfl
          have bx := Bx.new wr #[.bool false, .slice none 0 0, .slice none 0 0] 31
          have y1 : wr.cell? (adr ao i) = some (.slice a na cr) := by
            have := (hM.hdr i hih).1
            rw [hhd'.out] at this; exact this
          have hsp2 := hid hsp
          replace hg := hid hg
          clear hx hv hsp
          go_wp2_with (first | (with_reducible refine up_ixn slRat (by omega) (by assumption) ?_) | ((with_reducible show wpList _ _ _ (⟨_, .load 31 _, _, _, _, _⟩ :: _) _ _); refine st_loadOL stRat j hR hjm rfl (by simp) QC.agg ?_; intro u6 hu6; rw [hmg.out, hun.out] at hu6; obtain ⟨s6, a6, n6, c6, d6, k6, e6, rfl⟩ := hu6.shape) | ((with_reducible show wpList _ _ _ (⟨_, .store _ _ _, _, _, _, _⟩ :: _) _ _); refine st_storeBox stRat rfl rfl bx rfl rfl (one3 _ _ _ _ _ _ _) ?_; intro w6 r3 r4))
          have i2 : ∀ W, (Instr.indexAt 33 (.slice a na cr) (.int .i64 (j : Int))).run Tryz.prog W = .ok (.pointer (some ⟨g, o, none⟩)) W := by rw [← hg.out]; exact run_indexAt_adr slRat a na cr .i64 j hda (by omega)
          have hE6 : Ext wr w6 := ExtX.box ((ExtX.refl wr).alloc _) r4 (Nat.le_refl _)
          have hEd : Ext w6 w6.drew := (ExtX.refl w6).drew
          have hE6d := hE6.trans hEd
          have hM6 := hM.ext0 hE6d
          have hP6 := hP.ext0 (NatIn.elem _) hE6d
          have hR6 := hR.ext0 QC.elem hE6d
          have hB6 := hB7.ext0 hE6d
          have hx6 : QV (mk (mz (un X po) ao hs') w6.drew) (.agg #[.bool s6, .slice a6 n6 c6, .slice d6 k6 e6]) x := (mkx QC.mono hu6 hE6d).qv hbr.out
          have hb6 : QV (mk (mz (un X po) ao hs') w6.drew) (.agg #[.bool s5, .slice a5 n5 c5, .slice d5 k5 e5]) by_ := mkx QV.mono hq7 hE6d
          have hXd := hXz.ext hE6d
          have r3d := r3.ext0 hEd
          obtain ⟨bw, hbw⟩ : ∃ bw, wr.heap.size = bw := ⟨_, rfl⟩
          rw [hbw] at r3d
          have hab : Hid (ob a bw = false) := hid (by rw [← hbw]; exact hR.ob_ge (Nat.le_refl _))
          have habb : Hid (ob a bb = false) := hid (by
            cases hb : ob a bb
            · rfl
            · have h5 : mb ao hs' bb = true := mb_iff.2 (.inr (obs_get hih (show ob hs'[i].1 bb = true by rw [hhd'.out]; exact hb)))
              rw [hmb'.out, hmbb.out] at h5; simp at h5)
          have hS : Hid (∀ Y W', ExtX Y w6.drew W' → Y (adr ao i).block = false → Y bw = false → Y bb = false → W'.cell? (adr ao i) = some (.slice a na cr) ∧ W'.cell? ⟨bw, 0, none⟩ = some (.bool s6) ∧ W'.cell? ⟨bw, 1, none⟩ = some (.slice a6 n6 c6) ∧ W'.cell? ⟨bw, 2, none⟩ = some (.slice d6 k6 e6) ∧ W'.cell? ⟨bb, 0, none⟩ = some (.bool s5) ∧ W'.cell? ⟨bb, 1, none⟩ = some (.slice a5 n5 c5) ∧ W'.cell? ⟨bb, 2, none⟩ = some (.slice d5 k5 e5)) := hid fun Y W' h hy1 hy2 hy3 => by
            have z2 := r3d.ext h hy2
            have z3 := hB6.ext h hy3
            exact ⟨h.cellY (hE6d.cell y1) hy1, z2.cell 0 rfl, z2.cell 1 rfl, z2.cell 2 rfl, z3.cell 0 rfl, z3.cell 1 rfl, z3.cell 2 rfl⟩
          obtain ⟨k00, k10, k11, k12, k20, k21, k22⟩ := hS.out noY w6.drew (ExtX.refl _) rfl rfl rfl
          have qd := qdiv (mz (un X po) ao hs') w6.drew _ _ _ _ hXd hx6 hb6
          rw [← hRjj.out] at qd
          have qd2 : Calls Tryz.prog 135 #[.agg #[.bool s6, .slice a6 n6 c6, .slice d6 k6 e6], .agg #[.bool s5, .slice a5 n5 c5, .slice d5 k5 e5]] w6.drew (fun e w' => Ext w6.drew w' ∧ ∃ u ec, e = .returned (.tuple #[u, .int .i64 ec]) ∧ QC (mk (mz (un X po) ao hs') w') u v) := qd.mono fun e w' ⟨q1, u, q2, q3⟩ => ⟨q1, u, _, q2, q3⟩
          clear qd r3 bx y1
          rw [hbw]
          go_wp2_with fail
          go_region_held3 (fun w' => w'.cell? (adr ao i) = some (.slice a na cr) ∧ w'.cell? ⟨bw, 0, none⟩ = some (.bool s6) ∧ w'.cell? ⟨bw, 1, none⟩ = some (.slice a6 n6 c6) ∧ w'.cell? ⟨bw, 2, none⟩ = some (.slice d6 k6 e6) ∧ w'.cell? ⟨bb, 0, none⟩ = some (.bool s5) ∧ w'.cell? ⟨bb, 1, none⟩ = some (.slice a5 n5 c5) ∧ w'.cell? ⟨bb, 2, none⟩ = some (.slice d5 k5 e5))
            (first | exact hS.out noY _ t1 rfl rfl rfl | exact hS.out (ob a) _ ((ExtX.of t1).trans hset.2) haob.out hab.out habb.out | go_keep)
            ((go_at_call 135; (with_reducible refine qd2.mono ?_); rintro ee w7 ⟨t1, u7, ec7, rfl, hu7⟩; obtain ⟨s7, a7, n7, c7, d7, k7, e7, rfl⟩ := hu7.shape; have hO7 := hR6.ext0 QC.elem t1; obtain ⟨_, v0, v1, v2, _, ⟨g0, f0⟩, ⟨g1, f1⟩, ⟨g2, f2⟩, _⟩ := hO7.cell3 j hjm hg.out; have hset := hO7.set3 tyRat QC.elem j hjm hg.out (v0 := .bool s7) (v1 := .slice a7 n7 c7) (v2 := .slice d7 k7 e7) (x := v) (by rw [hun.out]; exact hu7)))
          obtain ⟨q1, q2⟩ := hset
          rw [hjs.out] at q1
          obtain ⟨w8, hw8⟩ : ∃ w8, ((w7.setCell ⟨g, o, none⟩ (.bool s7)).setCell ⟨g, o + 1, none⟩ (.slice a7 n7 c7)).setCell ⟨g, o + 2, none⟩ (.slice d7 k7 e7) = w8 := ⟨_, rfl⟩
          rw [hw8] at q1 q2 ⊢
          have q2' : ExtX (ob hs'[i].1) w7 w8 := by rw [hhd'.out]; exact q2
          have hM7 := (hM6.ext0 t1).upd hih (l := mix R row (j + 1)) q2' (fun hi' => by rw [List.getElem_set_self, mix_len hRr.out, mix_len hRr.out]) (by rw [hhd'.out]; exact q1)
          rw [List.set_set] at hM7
          have hP8 := (hP6.ext0 (NatIn.elem _) t1).frame (NatIn.pure _) q2 (fun k hk => by
            cases hb : ob a k
            · rfl
            · have := (hsp2.out k hb).1; rw [un_right hk] at this; simp at this) hP.1
          have hB8 := (hB6.ext0 t1).ext q2 habb.out
          have hq8 := QV.mono _ _ _ _ (mk_mono q2 hz1) (mkx QV.mono hb6 t1)
          have hE8 := (hE.trans (ExtX.of (hE6d.trans t1))).trans (show ExtX (mb ao hs) w7 w8 by rw [← hmb'.out]; exact ExtX.row hih q2')
          clear k00 k10 k11 k12 k20 k21 k22 g0 g1 g2 f0 f1 f2 i1 i2 hw8
          go_wp2_with fail
          go_roundw
          case rel => exact ⟨j + 1, by go_num, by omega, hM7, hP8, hB8, hq8, hE8⟩
          case measure => simp [intOf]; omega
        · have hjn : j = na := by omega
          subst hjn
          rw [mix_full (by rw [hRl.out]; exact Nat.le_refl _) (by rw [hrl.out]; exact Nat.le_refl _), hdiv.out] at hM
          obtain ⟨D2, hD2⟩ : ∃ D2, divL D i col = D2 := ⟨_, rfl⟩
          have hsh2 : Shp n j D2 := by rw [← hD2]; exact hDs.divL hin col
          have hbnd : Hid (∀ t, t < i → BR 68719476736 (D2.getD t []) ∧ BR 68719476736 (D2.getD i []) ∧ hq ((D2.getD t []).getD col 0 / (D2.getD i []).getD col 0) ≤ 68719476736 ∧ ∀ x ∈ D2.getD i [], hq ((D2.getD t []).getD col 0 / (D2.getD i []).getD col 0 * x) ≤ 68719476736) := hid fun t ht => by
            rw [← hD2]; exact elim_bounds2 hDs hDBi hin (by omega) (by omega) hDbi
          have hdn2 : Hid (above D2 i col i = dN E p (i + 1)) := hid (by rw [hdn.out]; unfold dStep; rw [hD2])
          rw [hD2] at hM
          have hD2l := hid hsh2.1
          have hM' : MO (un X po) base 33 31 wr ao cap hs' (above D2 i col 0) := by rw [above_zero]; exact hM
          have hicap : i ≤ cap := by omega
          have f1 : ∀ W, (Instr.sliceAt 23 (.slice ao n cap) none (some (.int .i64 (i : Int))) none).run Tryz.prog W = .ok (.slice ao i cap) W := run_slice_to slRats n cap .i64 i hicap
          have hhOi : Hd ao i := fun h0 => hhO (by omega)
          clear hM hD2 hB7 hq7
          go_wp2_with fail
          go_loopw [58] (fun k wx => ∃ (s : Nat), k = .int .i64 s ∧ s ≤ i ∧ MO (un X po) base 33 31 wx ao cap hs' (above D2 i col s) ∧ OL (NatIn .i64) 1 (mz X ao hs) w.heap.size 3 wx po pc p ∧ ExtX (mb ao hs) w wx) (fun k _ => i - (intOf k).toNat)
          case atStart => exact ⟨0, rfl, Nat.zero_le _, hM', hP, hE⟩
          case round =>
            obtain ⟨s, rfl, hs9, hM8, hP8, hE8⟩ := hrel
            by_cases hls : s < i
            · have htn : s < n := by omega
              have hth : s < hs'.length := by rw [hlen.out]; exact htn
              have htm : s < D2.length := by rw [hD2l.out]; exact htn
              have hpm : i < D2.length := by rw [hD2l.out]; exact hin
              have htc : s < (above D2 i col s).length := by rw [above_len]; exact htm
              have hpc : i < (above D2 i col s).length := by rw [above_len]; exact hpm
              obtain ⟨a1, n1, c1, hh1⟩ : ∃ a n c, hs'[s] = (a, n, c) := ⟨_, _, _, rfl⟩
              have hg1 : (above D2 i col s)[s] = D2[s] := by rw [above_get htc htm, if_neg (by omega)]
              have hg2 : (above D2 i col s)[i] = D2[i] := by rw [above_get hpc hpm, if_neg (by omega)]
              have hn1' : n1 = j := by
                have := hM8.rlen s hth htc
                rw [hh1, hg1, hsh2.2 _ (List.getElem_mem _)] at this; exact this
              subst hn1'
              have hR1 := hM8.row s hth htc
              have hR2 := hM8.row i hih hpc
              rw [hg1] at hR1
              rw [hg2] at hR2
              simp only [hh1] at hR1
              simp only [hhd'.out] at hR2
              have hzz1 := fun k (hk : ob a1 k = true) => hM8.mz_sub hth k (by rw [hh1]; exact hk)
              have hzz2 := fun k (hk : ob a k = true) => hM8.mz_sub hih k (by rw [hhd'.out]; exact hk)
              have hds : ∀ k, ob a1 k = true → ob a k = false := fun k hk => by
                have := hM8.dis s i hth hih (by omega) k (by rw [hh1]; exact hk)
                rw [hhd'.out] at this; exact this
              have hsp1 := fun k (hk : ob a1 k = true) => hM8.sep s hth k (by rw [hh1]; exact hk)
              have hBn := hbnd.out s hls
              rw [getD_row htm] at hBn
              have hcs : Hid ((above D2 i col s).set s (elimL D2[s] (D2.getD i []) col) = above D2 i col (s + 1)) := hid (above_set htm hls)
              have hpe : D2.getD i [] = D2[i] := getD_row hpm
              rw [← hpe] at hR2
              have hrl1 := hid (hsh2.2 D2[s] (List.getElem_mem _))
              have hrl2 := hid (show (D2.getD i []).length = n1 by rw [hpe]; exact hsh2.2 _ (List.getElem_mem _))
              obtain ⟨rw1, hrow1⟩ : ∃ rw1, D2[s] = rw1 := ⟨_, rfl⟩
              obtain ⟨piv, hpiv⟩ : ∃ piv, D2.getD i [] = piv := ⟨_, rfl⟩
              rw [hrow1, hpiv] at hcs
              rw [hrow1] at hR1 hrl1
              rw [hpiv] at hR2 hrl2
              rw [hrow1, hpiv] at hBn
              have hX8 : HX (un X po) wr := fun k hk => by
                by_cases hx : X k = true
                · exact hn0.out.ext hE8 k hx
                · exact (hP8.block (by simpa [un, hx] using hk)).2
              have hZ8 := hM8.hz hX8
              have hel := eliminate_any (mz (un X po) ao hs') base wr a1 a c1 cr n1 col rw1 piv hZ8 hR1 hR2 hzz1 hzz2 hds hrl1.out hrl2.out (by omega) hcl hBn.1 hBn.2.1 hBn.2.2.1 hBn.2.2.2
              have y1 : wr.cell? (adr ao s) = some (.slice a1 n1 c1) := by
                have := (hM8.hdr s hth).1
                rw [hh1] at this; exact this
              have y2 : wr.cell? (adr ao i) = some (.slice a n1 cr) := by
                have := (hM8.hdr i hih).1
                rw [hhd'.out] at this; exact this
              have hh1' := hid hh1
              clear hg1 hg2 hpe hrow1 hpiv hh1 hR1 hR2 hBn f1
              go_wp2_with (with_reducible refine up_ix1 slRats (by omega) (by assumption) ?_)
              refine hel.mono ?_
              rintro ee w7 ⟨rfl, t1, hO7⟩
              have hEr : ExtX (ob hs'[s].1) wr w7 := by rw [hh1'.out]; exact t1
              have hM9 := hM8.upd hth (l := elimL rw1 piv col) hEr (fun hi' => by
                rw [above_get htc htm, if_neg (by omega), elimL_len _ _ _ (by rw [hrl1.out, hrl2.out]), hrl2.out]
                exact (hsh2.2 _ (List.getElem_mem _)).symm) (by rw [hh1'.out]; exact hO7)
              rw [hcs.out] at hM9
              have hP9 := hP8.frame (NatIn.pure _) t1 (fun k hk => by
                cases hb : ob a1 k
                · rfl
                · have := (hsp1 k hb).1; rw [un_right hk] at this; simp at this) hP8.1
              have hE9 := hE8.trans (show ExtX (mb ao hs) wr w7 by rw [← hmb'.out]; exact ExtX.row hth hEr)
              clear y1 y2
              go_wp2_with fail
              go_roundw
              case rel => exact ⟨s + 1, by go_num, by omega, hM9, hP9, hE9⟩
              case measure => simp [intOf]; omega
            · have hsi : s = i := by omega
              subst hsi
              rw [hdn2.out] at hM8
              go_wp2_with fail
              go_roundw
              case rel => exact ⟨s + 1, by go_num, by omega, hM8, hP8, hE8⟩
              case measure => simp [intOf]; omega
    · have hil : i = pl := by omega
      subst hil
      rw [← hpl'.out] at hM
      go_wp2_with fail
      go_ret
      exact ⟨hE, po, pc, hs', by rw [hpl'.out]; rfl, hmb'.out, hM, hP⟩
end Go.Proofs.YtjbhcniiioepgaaGreat


namespace Go.Rep
open Go.RowKit Go.Lim
section
variable {P : Program} {ops : Array Oper} {Q : Exit → Act → World → Prop} {rest : List Oper} {a : Act} {w : World}
variable {α : Type} {R : Mem → Value → α → Prop} {sz : Nat} {X : Nat → Bool} {base : Nat} {e : TypeId} {ao : Option Addr} {cap : Nat} {l : List α}
variable {d : Option Tmp} {ty : TypeId} {ps : String} {af : Array Edge}
theorem OL.run_copy {t by_ : Nat} {z : Value} (T : SliceT P t e sz by_ z) (hR : Elem R sz) (h : OL R sz X base e w ao cap l) (sa : Option Addr) (ca : Nat) (us' : List Value) (xs : List α) (hat : At w sa us') (hlen : us'.length = xs.length)
    (hxs : ∀ i (hi : i < us'.length) (hi' : i < xs.length), R (mk (un X ao) w) us'[i] xs[i]) (hk : xs.length ≤ l.length) (h0 : 0 < xs.length) (ty : TypeId) :
    ∃ w', (Builtin.copy_ #[t, t] ty #[.slice ao l.length cap, .slice sa xs.length ca]).run P w = .ok (goInt xs.length) w' ∧ OL R sz X base e w' ao cap (xs ++ l.drop xs.length) ∧ ExtX (ob ao) w w' := by
  obtain ⟨i, hi, hz, hsz, hby⟩ := info_parts T.info
  have hus' : ∀ u ∈ us', u.cells.size = sz := by
    intro v hv
    obtain ⟨i, hi, rfl⟩ := List.getElem_of_mem hv
    exact hR.size _ _ _ (hxs i hi (by omega))
  have hone' : ∀ u ∈ us', ∀ c ∈ cellsL u, c.oneCell' = true := by
    intro v hv
    obtain ⟨i, hi, rfl⟩ := List.getElem_of_mem hv
    exact hR.one _ _ _ (hxs i hi (by omega))
  have hone2 : ∀ v ∈ us'.flatMap cellsL, v.oneCell' = true := by
    intro c hc
    obtain ⟨v, hv, hcv⟩ := List.mem_flatMap.1 hc
    exact hone' v hv c hcv
  obtain ⟨sb, so, rfl⟩ := hat.1 (by omega)
  have hnews : ∀ j u, (us'.flatMap cellsL)[j]? = some u → w.cell? ((⟨sb, so, none⟩ : Addr).add j) = some u := by
    intro j u hj
    rw [← adr_addr rfl]; exact hat.2 j u hj
  have hnl : (us'.flatMap cellsL).length = xs.length * sz := by rw [flat_length us' hus', hlen]
  have hform := h.form
  obtain ⟨hx, us, h1, h2, h22, h3, h5⟩ := h
  rcases hform with ⟨rfl, rfl, rfl⟩ | ⟨g, cur, rfl, h6, h7, h8, h9, h10⟩
  · simp at hk; subst hk; simp at h0
  have hfit : 0 + (us'.flatMap cellsL).length ≤ cur.size := by
    rw [Nat.zero_add, hnl, h10]; exact Nat.mul_le_mul_right _ (by omega)
  have hld := run_loadCells_list (P := P) w ⟨sb, so, none⟩ (us'.flatMap cellsL) hnews
  have hst := run_storeCells_at P g 0 e (us'.flatMap cellsL) 0 cur w h7 (by simpa using hfit) hone2
  have hE : ExtX (ob (some ⟨g, 0, none⟩)) w (w.setRow g (cur.toList.take (0 + 0) ++ us'.flatMap cellsL ++ cur.toList.drop (0 + 0 + (us'.flatMap cellsL).length)).toArray) :=
    ⟨rfl, rfl, rfl, by simp, fun k _ hk => setRow_other w g k _ (fun ek => by subst ek; simp [ob] at hk)⟩
  have hmin : Nat.min xs.length l.length = xs.length := Nat.min_eq_left hk
  have hdl : ∀ u ∈ us' ++ us.drop xs.length, u.cells.size = sz := by
    intro u hu
    rcases List.mem_append.1 hu with hu | hu
    · exact hus' u hu
    · exact h2 u (List.mem_of_mem_drop hu)
  have hlen2 : (us' ++ us.drop xs.length).length = (xs ++ l.drop xs.length).length := by simp [hlen, h1]
  refine ⟨_, ?_, ⟨hx, us' ++ us.drop xs.length, hlen2, hdl, ?_, ⟨?_, .inr ⟨g, cap, _, by simp, h6, setRow_heap w g cur _ e _ h7, by simp; omega, h9, ?_, ?_⟩⟩, ?_⟩, hE⟩
  · have hld2 : (loadCells ⟨sb, so, none⟩ (xs.length * i.size)).run P w = .ok (us'.flatMap cellsL).toArray w := by rw [hsz, ← hnl]; exact hld
    simp [Builtin.copy_, run_underlying T.und, Builtin.lenOf, Builtin.firstCells, sizeOf, typeInfo, hi, hmin, hld2, hst]
  · intro u hu c hc
    rcases List.mem_append.1 hu with hu | hu
    · exact hone' u hu c hc
    · exact h22 u (List.mem_of_mem_drop hu) c hc
  · rw [flat_length _ hdl, hlen2]
  · simp only [List.size_toArray, List.length_append, List.length_take, List.length_drop, Array.length_toList, h10, Nat.add_zero, Nat.zero_add, hnl]
    have := Nat.mul_le_mul_right sz (show xs.length ≤ cap by omega)
    omega
  · rcases h3.2 with ⟨hv, _⟩ | ⟨g', c', cur', hv, _, h7', _, _, _, h11⟩
    · simp at hv
    simp at hv
    obtain ⟨rfl, rfl⟩ := hv
    rw [h7] at h7'
    obtain rfl : cur = cur' := by simpa using h7'
    have hfu : us.flatMap cellsL = (us.take xs.length).flatMap cellsL ++ (us.drop xs.length).flatMap cellsL := by
      rw [← List.flatMap_append, List.take_append_drop]
    have hft : ((us.take xs.length).flatMap cellsL).length = xs.length * sz := by
      rw [flat_length _ (fun u hu => h2 u (List.mem_of_mem_take hu))]; simp [h1, Nat.min_eq_left hk]
    have hdr : (us.drop xs.length).flatMap cellsL = (cur.toList.take (l.length * sz)).drop (xs.length * sz) := by
      rw [h11, hfu, ← hft, List.drop_left]
    rw [List.flatMap_append, hdr]
    simp only [Nat.zero_add, List.take_zero, List.nil_append, hnl, List.length_append, List.length_drop, Nat.add_sub_cancel' hk]
    rw [List.take_append, List.take_of_length_le (by rw [hnl]; exact Nat.mul_le_mul_right _ hk), hnl, List.drop_take]
  · intro j hj hj'
    have hle : Le (mk (un X (some ⟨g, 0, none⟩)) w) (mk (un X (some ⟨g, 0, none⟩)) _) := mkun_over hE (.inl rfl)
    by_cases hlt : j < us'.length
    · simpa [List.getElem_append_left hlt, List.getElem_append_left (show j < xs.length by omega)] using hR.mono _ _ _ _ hle (hxs j hlt (by omega))
    · have hj2 : xs.length + (j - xs.length) < us.length := by simp at hj; omega
      have := hR.mono _ _ _ _ hle (h5 (xs.length + (j - xs.length)) hj2 (by omega))
      have e1 : xs.length + (j - xs.length) = j := by omega
      simpa [List.getElem_append_right (show us'.length ≤ j by omega), List.getElem_append_right (show xs.length ≤ j by omega), hlen, e1] using this
/-- copy(row, x). -/
theorem st_copyTo {t by_ : Nat} {z : Value} {s x : Operand} {sa : Option Addr} {ca n k : Nat} (T : SliceT P t e sz by_ z) (hR : Elem R sz) (xs : List α) (hs : a.eval s = .slice ao n cap) (hn : l.length = n) (hx : a.eval x = .slice sa k ca) (hkx : xs.length = k) (h : OL R sz X base e w ao cap l)
    (hxs : Sl R sz (mk (un X ao) w) sa xs) (hk : k ≤ n) (h0 : 0 < k)
    (K : ∀ w', OL R sz X base e w' ao cap (xs ++ l.drop k) → ExtX (ob ao) w w' → wpList P ops Q rest (a.put d (.int .i64 (k : Int))) w') :
    wpList P ops Q (⟨d, .call { callee := .builtin .copy, args := #[s, x], argTypes := #[t, t] }, ty, ps, af, none⟩ :: rest) a w := by
  refine wpList_plain rfl fun K' hK' => ?_
  subst hn; subst hkx
  obtain ⟨us, h1, h2, h3⟩ := hxs.at_ hR
  obtain ⟨w', hr, h2, h3⟩ := h.run_copy (P := P) T hR sa ca us xs h2 h1 h3 hk h0 ty
  unfold Oper.wp execOp
  simp only [resolve, invoke, builtin, Sem.run_bind, Sem.run_pure, Result.andThen_ok, List.map_toArray, List.map_cons, List.map_nil, hs, hx, hr]
  exact hK' _ _ (K w' h2 h3)
end
end Go.Rep


namespace Go.Lin
open Go.Lim
end Go.Lin


namespace Go.Lin
open Go.Lim
end Go.Lin


namespace Go.Proofs.YtjbhcniiioepgaaGreat
open Go.RowKit Go.Rep Go.Lim Go.Lin

end Go.Proofs.YtjbhcniiioepgaaGreat


namespace Go.Lin
open Go.Lim
theorem shpc {n c : Nat} {m : Mat} (h : Shp n c m) (hn : 1 ≤ n) : colsL m = c := by
  rw [colsL_pos (by rw [h.1]; exact hn)]; exact h.2 _ (List.getElem_mem _)
theorem bm_hb {B : Nat} {m : Mat} (h : Go.Rep.BM B m) (hB : 1 ≤ B) : HB B m := fun i j => by
  unfold ent
  by_cases hi : i < m.length
  · have e : m.getD i [] = m[i] := by simp [List.getD_eq_getElem?_getD, hi]
    rw [e]
    by_cases hj : j < (m[i]).length
    · have := h m[i] (List.getElem_mem _) (m[i])[j] (List.getElem_mem _)
      simpa [List.getD_eq_getElem?_getD, hj] using this
    · rw [List.getD_eq_getElem?_getD, List.getElem?_eq_none (by omega)]
      show hq 0 ≤ B
      rw [hq_zero]; exact hB
  · rw [List.getD_eq_getElem?_getD (l := m), List.getElem?_eq_none (by omega)]
    show hq 0 ≤ B
    rw [hq_zero]; exact hB
theorem hb_bm {B : Nat} {m : Mat} (h : HB B m) : Go.Rep.BM B m := fun r hr q hq => by
  obtain ⟨i, hi, rfl⟩ := List.getElem_of_mem hr
  obtain ⟨j, hj, rfl⟩ := List.getElem_of_mem hq
  have := h i j
  simpa [ent, List.getD_eq_getElem?_getD, hi, hj] using this
end Go.Lin
namespace Go.Proofs.YtjbhcniiioepgaaGreat
open Go.RowKit Go.Rep Go.Lim Go.Lin

end Go.Proofs.YtjbhcniiioepgaaGreat


namespace Go.Lin
open Go.Lim
end Go.Lin


namespace Go.Lin
open Go.Lim
end Go.Lin


namespace Go.Lin
/-- A matrix of zeros. -/
def zerL (r c : Nat) : Mat := List.replicate r (List.replicate c 0)
theorem zerL_len (r c : Nat) : (zerL r c).length = r := List.length_replicate
theorem zerL_get {r c i : Nat} (h : i < (zerL r c).length) : (zerL r c)[i] = List.replicate c 0 := List.getElem_replicate h
end Go.Lin
namespace Go.Proofs.YtjbhcniiioepgaaGreat
open Go.RowKit Go.Rep Go.Lim Go.Lin

end Go.Proofs.YtjbhcniiioepgaaGreat


namespace Go.Proofs.YtjbhcniiioepgaaGreat
open Go.RowKit Go.Rep Go.Lim Go.Lin

end Go.Proofs.YtjbhcniiioepgaaGreat


namespace Go.Proofs.YtjbhcniiioepgaaGreat
open Go.RowKit Go.Rep Go.Lim Go.Lin

end Go.Proofs.YtjbhcniiioepgaaGreat


namespace Go.Proofs.YtjbhcniiioepgaaGreat
open Go.RowKit Go.Rep Go.Lim Go.Lin

/-- A matrix, some column numbers, and no error. -/
def M3Out (X : Nat → Bool) (w : World) (m : List (List Rat)) (p : List Nat) (e : Ending) (w' : World) : Prop := Ext w w' ∧ ∃ u v, e = .returned (.tuple #[u, v, .int .i64 0]) ∧ MC (mk X w') u m ∧ SlV (NatIn .i64) 1 (mk X w') v p

theorem preduce_no (X : Nat → Bool) (w : World) (u : Value) (m : List (List Rat)) (hu : MV (mk X w) u m) (hl : m.length ≤ 1099511627776) (hf : formedB m = false) : Calls Tryz.prog 21 #[u] w (fun e w' => w' = w ∧ e = .returned (.tuple #[.slice none 0 0, .slice none 0 0, .int .i64 6])) := by
  have hfo := formed_any X w u m hu hl
  rw [hf] at hfo
  clear hf
  go_enter Tryz.func21, Tryz.ntmps21
  go_wp2_with fail
  refine hfo.mono ?_
  rintro e w1 ⟨rfl, rfl⟩
  go_wp2_with fail
  go_ret3
  exact ⟨rfl, rfl⟩

theorem preduce_ok (X : Nat → Bool) (w : World) (u : Value) (m : List (List Rat)) (hX : HX X w) (hu : MV (mk X w) u m) (hf : formedB m = true) (hT : Tame m (colsL m)) : Calls Tryz.prog 21 #[u] w (M3Out X w (redP m (colsL m)).1 (redP m (colsL m)).2) := by
  obtain ⟨hsh, h96, hc96, _, _⟩ := formedB_shp hf
  have hfo := formed_any X w u m hu (by omega)
  rw [hf] at hfo
  have hco := copied_any X w u m m.length (colsL m) hX hu hsh rfl (by omega) (by omega)
  have hrs := hid (redP_ok hsh).1
  clear hf
  go_enter Tryz.func21, Tryz.ntmps21
  go_wp2_with fail
  refine hfo.mono ?_
  rintro e w1 ⟨rfl, rfl⟩
  go_wp2_with fail
  refine hco.mono ?_
  rintro e w2 ⟨hE2, ao, cap, hs, rfl, hM2⟩
  go_wp2_with fail
  refine (mreduce_any X _ w2 ao cap m.length (colsL m) hs m (hX.ext hE2) hM2 hsh rfl (by omega) (by omega) hT).mono ?_
  rintro e w3 ⟨hE3, po, pc, hs', rfl, hmb, hM3, hP3⟩
  have hEf := hM2.ext_from hE2 (Nat.le_refl _) hE3
  have hmc := MC.mono _ _ _ _ (mk_sub (X := X) fun k _ hk => un_left hk) hM3.mc
  have hps : SlV (NatIn .i64) 1 (mk X w3) (.slice po (redP m (colsL m)).2.length pc) (redP m (colsL m)).2 := ⟨po, pc, rfl, hP3.lenCap, (hP3.sl (NatIn.elem _)).mono (NatIn.mono _) (mk_sub fun k _ hk => mz_iff.2 (.inl hk))⟩
  rw [hrs.out.1] at hmc
  go_wp2_with fail
  go_ret3
  exact ⟨hEf, _, _, rfl, hmc, hps⟩
end Go.Proofs.YtjbhcniiioepgaaGreat


namespace Go.Lin
open Go.Lim
/-- The matrix with a column at its right side. -/
def wideB (m : Mat) (b : List Rat) (n : Nat) : Mat := (List.range n).map fun i => m.getD i [] ++ [b.getD i 0]
theorem wideB_shp {m : Mat} {b : List Rat} {n c : Nat} (hs : Shp n c m) : Shp n (c + 1) (wideB m b n) := ⟨by simp [wideB], fun r hr => by
  obtain ⟨i, hi, rfl⟩ := List.mem_map.1 hr
  rw [List.length_append, hs.row (List.mem_range.1 hi)]; rfl⟩
theorem wideB_get {m : Mat} {b : List Rat} {n i : Nat} (h : i < (wideB m b n).length) (hi : i < m.length) (hb : i < b.length) : (wideB m b n)[i] = m[i] ++ [b[i]] := by
  simp [wideB, hi, hb, List.getD_eq_getElem?_getD]
theorem ent_wideB {m : Mat} {b : List Rat} {n c : Nat} (hs : Shp n c m) : Eqm n (c + 1) (ent (wideB m b n)) (wideF c (ent m) fun i => b.getD i 0) := fun i hi j hj => by
  have hr := hs.row hi
  have e : (wideB m b n).getD i [] = m.getD i [] ++ [b.getD i 0] := by simp [wideB, List.getD_eq_getElem?_getD, hi]
  show ((wideB m b n).getD i []).getD j 0 = _
  unfold wideF
  rw [e, List.getD_eq_getElem?_getD]
  by_cases h : j = c
  · rw [if_pos h, List.getElem?_append_right (by omega), hr]; subst h; simp
  · rw [if_neg h, List.getElem?_append_left (by omega), ← List.getD_eq_getElem?_getD]; rfl
theorem eN_nil (k : Nat) : eN [] k = ([], [], false) := by
  induction k with
  | zero => rfl
  | succ k ih => unfold eN; rw [ih]; rfl
theorem redP_nil (k : Nat) : redP [] k = ([], []) := by unfold redP; rw [eN_nil]; rfl
/-- The program's number of columns of a matrix without rows is 0. -/
theorem redP_cols {n c : Nat} {m : Mat} (hs : Shp n c m) (c' : Nat) (h : 0 < n → c' = c) : redP m c' = redP m c := by
  by_cases h0 : n = 0
  · have : m = [] := List.eq_nil_of_length_eq_zero (by rw [hs.1]; exact h0)
    subst this; rw [redP_nil, redP_nil]
  · rw [h (by omega)]
theorem tame_cols {n c : Nat} {m : Mat} (hs : Shp n c m) (c' : Nat) (h : 0 < n → c' = c) (hT : Tame m c) : Tame m c' := by
  by_cases h0 : n = 0
  · have : m = [] := List.eq_nil_of_length_eq_zero (by rw [hs.1]; exact h0)
    subst this
    obtain ⟨B, h1, h2, _⟩ := hT
    have h3 := h2 0 (Nat.zero_le _)
    rw [eN_nil] at h3
    refine ⟨B, h1, fun j _ => by rw [eN_nil]; exact h3, fun t ht => ?_⟩
    rw [eN_nil] at ht ⊢
    have : t = 0 := by simpa using ht
    subst this; exact h3
  · rw [h (by omega)]; exact hT
/-- The first i pivots' unknowns are written. -/
def sN (R : Mat) (p : List Nat) (c : Nat) : Nat → List Rat
  | 0 => List.replicate c 0
  | i + 1 => (sN R p c i).set (p.getD i 0) (ent R i c)
theorem sN_len (R : Mat) (p : List Nat) (c i : Nat) : (sN R p c i).length = c := by
  induction i with
  | zero => exact List.length_replicate
  | succ i ih => show ((sN R p c i).set _ _).length = c; rw [List.length_set, ih]
theorem sN_get {n c : Nat} {R : Mat} {p : List Nat} (hr : Rref n (c + 1) (ent R) p) (i : Nat) (hi : i ≤ p.length) (x : Nat) (hx : x < c) : (sN R p c i).getD x 0 = match p.findIdx? (· == x) with | some k => if k < i then ent R k c else 0 | none => 0 := by
  induction i with
  | zero =>
    show (List.replicate c (0 : Rat)).getD x 0 = _
    have : (List.replicate c (0 : Rat)).getD x 0 = 0 := by simp [List.getD_eq_getElem?_getD, hx]
    rw [this]; cases p.findIdx? (· == x) <;> simp
  | succ i ih =>
    have hip : i < p.length := by omega
    have hpi : p.getD i 0 = p[i] := by simp [List.getD_eq_getElem?_getD, hip]
    show ((sN R p c i).set (p.getD i 0) (ent R i c)).getD x 0 = _
    rw [hpi, List.getD_eq_getElem?_getD, List.getElem?_set, sN_len]
    by_cases h : p[i] = x
    · rw [if_pos h, if_pos (by omega), ← h, hr.idx i hip]; simp
    · rw [if_neg h, ← List.getD_eq_getElem?_getD, ih (by omega)]
      cases hf : p.findIdx? (· == x) with
      | none => rfl
      | some k =>
        have hk := List.findIdx?_eq_some_iff_getElem.1 hf
        obtain ⟨hk1, hk2, _⟩ := hk
        have hki : k ≠ i := by rintro rfl; exact h (by simpa using hk2)
        dsimp only
        by_cases h2 : k < i
        · rw [if_pos h2, if_pos (by omega)]
        · rw [if_neg h2, if_neg (by omega)]
/-- What Solve returns. -/
def solL (R : Mat) (p : List Nat) (c : Nat) : List Rat := sN R p c p.length
theorem solL_get {n c : Nat} {R : Mat} {p : List Nat} (hr : Rref n (c + 1) (ent R) p) (x : Nat) (hx : x < c) : (solL R p c).getD x 0 = solX (ent R) p c x := by
  unfold solL solX
  rw [sN_get hr _ (Nat.le_refl _) x hx]
  cases hf : p.findIdx? (· == x) with
  | none => rfl
  | some k =>
    obtain ⟨hk1, _⟩ := List.findIdx?_eq_some_iff_getElem.1 hf
    dsimp only
    rw [if_pos hk1]
end Go.Lin


namespace Go.Lin
open Go.Lim
/-- The first i pivots' unknowns of a null vector are written. -/
def xN (R : Mat) (p : List Nat) (c col : Nat) : Nat → List Rat
  | 0 => (List.replicate c 0).set col 1
  | i + 1 => (xN R p c col i).set (p.getD i 0) (- ent R i col)
theorem xN_len (R : Mat) (p : List Nat) (c col i : Nat) : (xN R p c col i).length = c := by
  induction i with
  | zero => show ((List.replicate c (0 : Rat)).set col 1).length = c; rw [List.length_set, List.length_replicate]
  | succ i ih => show ((xN R p c col i).set _ _).length = c; rw [List.length_set, ih]
theorem xN_get {n c col : Nat} {R : Mat} {p : List Nat} (hr : Rref n c (ent R) p) (hcp : col ∉ p) (i : Nat) (hi : i ≤ p.length) (x : Nat) (hx : x < c) : (xN R p c col i).getD x 0 = if x = col then 1 else match p.findIdx? (· == x) with | some k => if k < i then - ent R k col else 0 | none => 0 := by
  induction i with
  | zero =>
    show ((List.replicate c (0 : Rat)).set col 1).getD x 0 = _
    rw [List.getD_eq_getElem?_getD, List.getElem?_set, List.length_replicate]
    by_cases h : col = x
    · subst h; rw [if_pos rfl, if_pos hx, if_pos rfl]; rfl
    · rw [if_neg h, if_neg (Ne.symm h)]
      have : ((List.replicate c (0 : Rat))[x]?).getD 0 = 0 := by simp [hx]
      rw [this]; cases p.findIdx? (· == x) <;> simp
  | succ i ih =>
    have hip : i < p.length := by omega
    have hpi : p.getD i 0 = p[i] := by simp [List.getD_eq_getElem?_getD, hip]
    show ((xN R p c col i).set (p.getD i 0) (- ent R i col)).getD x 0 = _
    rw [hpi, List.getD_eq_getElem?_getD, List.getElem?_set, xN_len]
    by_cases h : p[i] = x
    · have hxc : x ≠ col := by rintro rfl; exact hcp (h ▸ List.getElem_mem _)
      rw [if_pos h, if_pos (by omega), if_neg hxc, ← h, hr.idx i hip]; simp
    · rw [if_neg h, ← List.getD_eq_getElem?_getD, ih (by omega)]
      cases hf : p.findIdx? (· == x) with
      | none => rfl
      | some k =>
        obtain ⟨hk1, hk2, _⟩ := List.findIdx?_eq_some_iff_getElem.1 hf
        have hki : k ≠ i := by rintro rfl; exact h (by simpa using hk2)
        dsimp only
        by_cases h2 : k < i
        · rw [if_pos h2, if_pos (show k < i + 1 by omega)]
        · rw [if_neg h2, if_neg (show ¬ k < i + 1 by omega)]
theorem xN_full {n c col : Nat} {R : Mat} {p : List Nat} (hr : Rref n c (ent R) p) (hcp : col ∉ p) : xN R p c col p.length = (List.range c).map (nv (ent R) p col) := by
  refine List.ext_getElem (by rw [xN_len]; simp) fun x h1 h2 => ?_
  have hx : x < c := by rw [xN_len] at h1; exact h1
  have := xN_get hr hcp _ (Nat.le_refl _) x hx
  rw [List.getD_eq_getElem?_getD, List.getElem?_eq_getElem h1] at this
  rw [show (xN R p c col p.length)[x] = _ from this]
  simp only [List.getElem_map, List.getElem_range]
  unfold nv
  by_cases h : x = col
  · rw [if_pos h, if_pos h]
  · rw [if_neg h, if_neg h]
    cases hf : p.findIdx? (· == x) with
    | none => rfl
    | some k =>
      obtain ⟨hk1, _⟩ := List.findIdx?_eq_some_iff_getElem.1 hf
      dsimp only
      rw [if_pos hk1]
/-- The null vectors of the first k columns. -/
def nullK (r : F2) (p : List Nat) (c k : Nat) : Mat := ((List.range k).filter (· ∉ p)).map fun j => (List.range c).map (nv r p j)
theorem nullK_skip (r : F2) {p : List Nat} (c : Nat) {k : Nat} (h : k ∈ p) : nullK r p c (k + 1) = nullK r p c k := by
  unfold nullK; rw [List.range_succ, List.filter_append]; simp [h]
theorem nullK_push (r : F2) {p : List Nat} (c : Nat) {k : Nat} (h : k ∉ p) : nullK r p c (k + 1) = nullK r p c k ++ [(List.range c).map (nv r p k)] := by
  unfold nullK; rw [List.range_succ, List.filter_append, List.map_append]; simp [h]
theorem nullK_le (r : F2) (p : List Nat) (c k : Nat) : (nullK r p c k).length ≤ k := by
  unfold nullK
  rw [List.length_map]
  exact Nat.le_trans (List.length_filter_le _ _) (by simp)
theorem tame_bm {m : Mat} {c : Nat} (h : Tame m c) : Go.Rep.BM 9817068105 (redP m c).1 := by
  obtain ⟨B, h1, _, h3⟩ := h
  have := (h3 _ (Nat.le_refl _)).bm
  exact fun r hr q hq => Nat.le_trans (this r hr q hq) (by omega)
end Go.Lin
namespace Go.Proofs.YtjbhcniiioepgaaGreat
open Go.RowKit Go.Rep Go.Lim Go.Lin

theorem indexint_any (X : Nat → Bool) (w : World) (ao : Option Addr) (l : List Nat) (n c x : Nat) (hs : Sl (NatIn .i64) 1 (mk X w) ao l) (hl : l.length = n) (hn : n ≤ 1000000) : Calls Tryz.prog 165 #[.slice ao n c, .int .i64 (x : Int)] w (fun e w' => w' = w ∧ ∃ k : Int, e = .returned (.int .i64 k) ∧ (0 ≤ k ↔ x ∈ l)) := by
  have hh : Hd ao n := by have := hs.hd; rw [hl] at this; exact this
  have hl' := hid hl
  clear hl
  go_enter Tryz.func165, Tryz.ntmps165
  go_wp2_with fail
  go_loopw [8] (fun k wr => ∃ (i : Nat), k = .int .i64 i ∧ i ≤ n ∧ Hid (∀ q (hq : q < l.length), q < i → l[q] ≠ x) ∧ wr = w) (fun k _ => n - (intOf k).toNat)
  case atStart => exact ⟨0, rfl, Nat.zero_le _, hid (fun q hq h => by omega), rfl⟩
  case round =>
    obtain ⟨i, rfl, hi, hok, rfl⟩ := hrel
    by_cases hlt : i < n
    · have hil : i < l.length := by rw [hl'.out]; exact hlt
      have hc := hs.nat i hil
      by_cases hx : l[i] = x
      · have hb : ((x : Int) == (l[i] : Int)) = true := beqT (by omega)
        have hm : Hid (x ∈ l) := hid (hx ▸ List.getElem_mem _)
        obtain ⟨y, hy⟩ : ∃ y, (l[i] : Int) = y := ⟨_, rfl⟩
        rw [hy] at hc hb
        clear hx hy
        go_wp2_with (with_reducible refine up_ix1 slInt (by omega) (by assumption) ?_)
        go_ret
        exact ⟨rfl, _, rfl, ⟨fun _ => hm.out, fun _ => by omega⟩⟩
      · have hb : ((x : Int) == (l[i] : Int)) = false := beqF (by omega)
        have hok2 : Hid (∀ q (hq : q < l.length), q < i + 1 → l[q] ≠ x) := hid fun q hq hqi => by
          by_cases h : q = i
          · subst h; exact hx
          · exact hok.out q hq (by omega)
        obtain ⟨y, hy⟩ : ∃ y, (l[i] : Int) = y := ⟨_, rfl⟩
        rw [hy] at hc hb
        clear hx hy
        go_wp2_with (with_reducible refine up_ix1 slInt (by omega) (by assumption) ?_)
        go_roundw
        case rel => exact ⟨i + 1, by go_num, by omega, hok2, trivial⟩
        case measure => simp [intOf]; omega
    · have hno : Hid (x ∉ l) := hid fun hm => by
        obtain ⟨q, hq, hqx⟩ := List.getElem_of_mem hm
        exact hok.out q hq (by rw [hl'.out] at hq; omega) hqx
      go_wp2_with fail
      go_ret
      exact ⟨rfl, _, rfl, ⟨fun h => by omega, fun h => absurd h hno.out⟩⟩

theorem contains_any (X : Nat → Bool) (w : World) (ao : Option Addr) (l : List Nat) (n c x : Nat) (hs : Sl (NatIn .i64) 1 (mk X w) ao l) (hl : l.length = n) (hn : n ≤ 1000000) : Calls Tryz.prog 111 #[.slice ao n c, .int .i64 (x : Int)] w (fun e w' => w' = w ∧ e = .returned (.bool (decide (x ∈ l)))) := by
  have h1 := indexint_any X w ao l n c x hs hl hn
  clear hs hl hn
  go_enter Tryz.func111, Tryz.ntmps111
  go_wp2_with fail
  refine h1.mono ?_
  rintro e w1 ⟨rfl, k, rfl, hk⟩
  have hd : Hid (decide (0 ≤ k) = decide (x ∈ l)) := hid (decide_eq_decide.2 hk)
  clear hk
  go_wp2_with fail
  go_ret
  exact ⟨rfl, ret_bool hd.out⟩

theorem null_no (X : Nat → Bool) (w : World) (u : Value) (m : List (List Rat)) (hu : MV (mk X w) u m) (hl : m.length ≤ 1099511627776) (hf : formedB m = false) : Calls Tryz.prog 55 #[u] w (fun e w' => w' = w ∧ e = .returned (.tuple #[.slice none 0 0, .int .i64 6])) := by
  have h1 := preduce_no X w u m hu hl hf
  clear hf
  go_enter Tryz.func55, Tryz.ntmps55
  go_wp2_with fail
  refine h1.mono ?_
  rintro e w1 ⟨rfl, rfl⟩
  go_wp2_with fail
  go_ret2
  exact ⟨rfl, rfl⟩

set_option maxRecDepth 100000 in
set_option maxHeartbeats 1600000 in
theorem null_ok (X : Nat → Bool) (w : World) (u : Value) (m : List (List Rat)) (n c : Nat) (hX : HX X w) (hu : MV (mk X w) u m) (hf : formedB m = true) (hnn : m.length = n) (hcc : colsL m = c) (hT : Tame m c) : Calls Tryz.prog 55 #[u] w (M2Out X w (nullL (ent (redP m c).1) (redP m c).2 c)) := by
  obtain ⟨hsh, h96, hc96, hpos, _⟩ := formedB_shp hf
  rw [hnn, hcc] at hsh
  rw [hnn] at h96
  rw [hcc] at hc96
  have hrd := preduce_ok X w u m hX hu hf (by rw [hcc]; exact hT)
  rw [hcc] at hrd
  have hcol := hid (fun w' (h : Ext w w') => columns_any X w' u m (mkx MV.mono hu h))
  rw [hcc] at hcol
  have hok := redP_ok hsh
  have hbm := hid (tame_bm hT)
  obtain ⟨⟨R, p⟩, hRp⟩ : ∃ S, redP m c = S := ⟨_, rfl⟩
  rw [hRp] at hrd hok hbm ⊢
  dsimp only at hrd hok hbm ⊢
  have hRs := hid hok.1
  have hRr := hid hok.2.1
  obtain ⟨pl, hpl⟩ : ∃ pl, p.length = pl := ⟨_, rfl⟩
  have hpl' := hid hpl
  have hpn : pl ≤ n := by have := hok.2.1.le; omega
  have hfull : Hid (nullK (ent R) p c c = nullL (ent R) p c) := hid rfl
  obtain ⟨ua, uca, rfl, huca, hua⟩ := hu
  clear hok hT hsh hf hnn hcc hRp huca hua hpos hpl
  go_enter Tryz.func55, Tryz.ntmps55
  go_wp2_with fail
  refine hrd.mono ?_
  rintro e w1 ⟨hE1, ur, uv, rfl, hur, huv⟩
  obtain ⟨ra, rca, rfl, hrca, hra⟩ := hur
  obtain ⟨pa, pca, rfl, hpca, hpa⟩ := huv
  have hhr : Hd ra n := by have := hra.hd; rw [hRs.out.1] at this; exact this
  have hhp : Hd pa pl := by have := hpa.hd; rw [hpl'.out] at this; exact this
  have hX1 := hX.ext hE1
  rw [hRs.out.1, hpl'.out]
  clear hrd
  go_wp2_with fail
  refine (hcol.out w1 hE1).mono ?_
  rintro e w2 ⟨rfl, rfl⟩
  go_wp2_with fail
  go_loopw [7, 23] (fun o kk wr => ∃ (k q : Nat) (oo : Option Addr) (co : Nat), kk = .int .i64 k ∧ o = .slice oo q co ∧ k ≤ c ∧ q ≤ k ∧ Hid ((nullK (ent R) p c k).length = q) ∧ OL RC 1 X w2.heap.size 33 wr oo co (nullK (ent R) p c k) ∧ Ext w2 wr) (fun _ kk _ => c - (intOf kk).toNat)
  case atStart => exact ⟨0, 0, none, 0, rfl, rfl, Nat.zero_le _, Nat.le_refl _, hid rfl, OL.nil _ _ _ _ _ _, ExtX.refl _⟩
  case round =>
    obtain ⟨k, q, oo, co, rfl, rfl, hk, hqk, hlq, hO, hE⟩ := hrel
    by_cases hlt : k < c
    · have hXr : HX X wr := hX1.ext hE
      have hXu : HX (un X oo) wr := hO.unX hXr
      have hcon := contains_any X wr pa p pl pca k (hpa.mono (NatIn.mono _) (mk_ext hE)) hpl'.out (by omega)
      have hw2r := hE.size
      by_cases hkp : k ∈ p
      · rw [decide_eq_true hkp] at hcon
        have hsk := hid (nullK_skip (ent R) c hkp)
        clear hkp
        go_wp2_with fail
        refine hcon.mono ?_
        rintro e w3 ⟨rfl, rfl⟩
        rw [← hsk.out] at hO hlq
        go_wp2_with fail
        go_roundw
        case rel => exact ⟨k + 1, q, oo, co, by go_num, rfl, by omega, by omega, hlq, hO, hE⟩
        case measure => simp [intOf]; omega
      · rw [decide_eq_false hkp] at hcon
        have hps := hid (nullK_push (ent R) c hkp)
        have hxf := hid (xN_full hRr.out hkp)
        rw [hpl'.out] at hxf
        have hcl := hcol.out wr (hE1.trans hE)
        clear hkp
        obtain ⟨wo, hwo⟩ : ∃ wo, wo = wr := ⟨_, rfl⟩
        subst hwo
        go_wp2_with fail
        refine hcon.mono ?_
        rintro e w3 ⟨rfl, rfl⟩
        go_wp2_with fail
        refine hcl.mono ?_
        rintro e w4 ⟨rfl, rfl⟩
        clear hcon hcl
        go_wp2_with ((with_reducible show wpList _ _ _ (⟨_, .makeSlice _ _ _, _, _, _, _⟩ :: _) _ _); refine st_make (R := QC) slRat QC.elem (0 : Rat) (fun _ => QC.zero _) (un X oo) hXu w4.heap.size (Nat.le_refl _) c rfl rfl rfl (by omega) (by omega) ?_; intro xo w5 hO5 hE5)
        have hob := hid (fun k (hk : ob xo k = true) => hO5.block hk)
        have hxd : Hd xo c := by have := hO5.hd; rw [List.length_replicate] at this; exact this
        obtain ⟨Z, hZe⟩ : ∃ Z, un (un X oo) xo = Z := ⟨_, rfl⟩
        have hZ' := hid hZe
        have hZ5 : HX Z w5 := by rw [← hZe]; exact hO5.unX (hXu.ext hE5)
        have hoob := hid (fun k (hk : ob oo k = true) => hO.block hk)
        have hXr' := hid hXr
        have hzold : Hid (∀ k, k < w2.heap.size → Z k = true → X k = true) := hid fun k hk hz => by
          rw [← hZ'.out] at hz
          by_cases h1 : X k = true
          · exact h1
          · by_cases h2 : ob oo k = true
            · have := (hoob.out k h2).1; omega
            · have h3 : ob xo k = true := by simpa [un, h1, h2] using hz
              have := (hob.out k h3).1; omega
        have h1r : ((1 : Int) : Rat) = 1 := by decide +kernel
        have hqf := qfrom Z w5 1 hZ5 (by omega) (by omega)
        rw [h1r] at hqf
        have hkr : k < (List.replicate c (0 : Rat)).length := by rw [List.length_replicate]; exact hlt
        clear h1r hZe
        go_wp2_with fail
        refine hqf.mono ?_
        rintro e w6 ⟨hE6, u6, rfl, hu6⟩
        have hO6 := hO5.ext0 QC.elem hE6
        go_wp2_with (first | (with_reducible refine up_ixn slRat (by omega) (by assumption) ?_) | ((with_reducible show wpList _ _ _ (⟨_, .store 31 _ _, _, _, _, _⟩ :: _) _ _); refine st_store tyRat QC.elem k rfl (by simp) hO6 hkr _ 1 rfl (by rw [hZ'.out]; exact hu6) ?_; intro w7 hO7 hE7))
        have hE47 : Ext w4 w7 := (hE5.trans hE6).own hO6 (Nat.le_refl _) hE7
        clear hqf hO5 hO6
        go_loopw [38] (fun kk wi => ∃ (j : Nat), kk = .int .i64 j ∧ j ≤ pl ∧ OL QC 3 (un X oo) w4.heap.size 31 wi xo c (xN R p c k j) ∧ Ext w4 wi) (fun kk _ => pl - (intOf kk).toNat)
        case atStart => exact ⟨0, rfl, Nat.zero_le _, hO7, hE47⟩
        case round =>
          obtain ⟨j, rfl, hj, hOx, hEx⟩ := hrel
          have hE2x := hE.trans hEx
          by_cases hlj : j < pl
          · have hjp : j < p.length := by rw [hpl'.out]; exact hlj
            have hpc := (hpa.mono (NatIn.mono _) (mk_ext hE2x)).nat j hjp
            have hpc1 : Hid (p[j] < c) := hid (hRr.out.lt j hjp)
            have hgd : Hid (p.getD j 0 = p[j]) := hid (by simp [List.getD_eq_getElem?_getD, hjp])
            obtain ⟨y, hy⟩ : ∃ y, p[j] = y := ⟨_, rfl⟩
            rw [hy] at hpc hpc1 hgd
            have hyc : y < c := hpc1.out
            have hjR : j < R.length := by rw [hRs.out.1]; omega
            have hrz : Sl RC 1 (mk Z wr) ra R := hra.mono RC.mono (mk_over hE2x (fun k _ hk => by simp [noY] at hk) hzold.out)
            obtain ⟨a1, c1, hX1', hc1, hcl1, hq1⟩ := hrz.row j hjR
            have k00 := hc1.out noY wr (ExtX.refl _) rfl
            have hxl : Hid (R[j].length = c) := hid (hRs.out.2 _ (List.getElem_mem _))
            have hxe : Hid (∀ h : k < R[j].length, R[j][k] = ent R j k) := hid fun h => by unfold ent; rw [show R.getD j [] = R[j] by simp [List.getD_eq_getElem?_getD, hjR]]; simp [List.getD_eq_getElem?_getD, h]
            have hbr := hid (hbm.out R[j] (List.getElem_mem _))
            obtain ⟨x, hx⟩ : ∃ x, R[j] = x := ⟨_, rfl⟩
            rw [hx] at k00 hcl1 hq1 hxl hxe hbr
            rw [hxl.out] at k00 hcl1
            have hh1 : Hd a1 c := by have := hq1.hd; rw [hxl.out] at this; exact this
            have hkx : k < x.length := by rw [hxl.out]; exact hlt
            have hxk := hid (hxe.out hkx)
            have hbk := hid (hbr.out x[k] (List.getElem_mem _))
            have hZr : HX Z wr := by
              rw [← hZ'.out]
              exact hOx.unX (hXu.ext hEx)
            have hyx : y < (xN R p c k j).length := by rw [xN_len]; exact hyc
            have hst : Hid ((xN R p c k j).set y (- ent R j k) = xN R p c k (j + 1)) := hid (by rw [← hgd.out]; rfl)
            obtain ⟨v, hv⟩ : ∃ v, x[k] = v := ⟨_, rfl⟩
            rw [hv] at hxk hbk
            have hv' := hid hv
            clear hx hc1 hy hv
            go_wp2_with (first | (with_reducible refine up_ix1 slInt (by omega) (by assumption) ?_) | (with_reducible refine up_ix1 slRats (by omega) (by assumption) ?_) | (with_reducible refine up_ixn slRat (by omega) (by assumption) ?_) | ((with_reducible show wpList _ _ _ (⟨_, .load 31 _, _, _, _, _⟩ :: _) _ _); refine st_loadElem stRat k hq1 hkx rfl (by simp) QC.agg ?_; intro u8 hu8; rw [hv'.out] at hu8; obtain ⟨s8, a8, n8, c8, d8, k8, e8, rfl⟩ := hu8.shape))
            refine (qneg Z wr _ v hZr (hu8.qv (by have := hbk.out; omega))).mono ?_
            rintro e w9 ⟨hE9, u9, rfl, hu9⟩
            have hO9 := hOx.ext0 QC.elem hE9
            rw [hxk.out] at hu9
            clear k00 hpc
            go_wp2_with (first | (with_reducible refine up_ixn slRat (by omega) (by assumption) ?_) | ((with_reducible show wpList _ _ _ (⟨_, .store 31 _ _, _, _, _, _⟩ :: _) _ _); refine st_store tyRat QC.elem y rfl (by simp) hO9 hyx _ (- ent R j k) rfl (by rw [hZ'.out]; exact hu9) ?_; intro w10 hO10 hE10))
            rw [hst.out] at hO10
            have hEx2 : Ext w4 w10 := (hEx.trans hE9).own hO9 (Nat.le_refl _) hE10
            go_roundw
            case rel => exact ⟨j + 1, by go_num, by omega, hO10, hEx2⟩
            case measure => simp [intOf]; omega
          · have hjl : j = pl := by omega
            subst hjl
            rw [hxf.out] at hOx
            obtain ⟨L, hL⟩ : ∃ L, (List.range c).map (nv (ent R) p k) = L := ⟨_, rfl⟩
            rw [hL] at hOx hps
            have hLl : L.length = c := by rw [← hL]; simp
            have hsx := hOx.sl QC.elem
            have hlc := hOx.lenCap
            have hOw := hO.ext0 RC.elem hEx
            have hszx := hEx.size
            clear hL
            go_wp2_with (at_builtin; refine st_append1n (l := nullK (ent R) p c k) slRats rfl RC.elem (by omega) (hXr'.out.ext hEx) q hlq.out rfl rfl hOw (.slice xo c c) L rfl ⟨xo, c, by rw [hLl], hlc, hsx⟩ (by omega) (by omega) ?_; intro oo2 co2 w11 hO11 hE11 hor)
            have hE12 := (hE.trans hEx).own hOw (Nat.le_refl _) hE11
            rw [← hps.out] at hO11
            have hlq2 : Hid ((nullK (ent R) p c (k + 1)).length = q + 1) := hid (by rw [hps.out, List.length_append, hlq.out]; rfl)
            go_roundw
            case rel => exact ⟨k + 1, q + 1, oo2, co2, by go_num, by go_num, by omega, by omega, hlq2, hO11, hE12⟩
            case measure => simp [intOf]; omega
    · have hkc : k = c := by omega
      subst hkc
      rw [hfull.out] at hO hlq
      have hc := hO.lenCap
      have hs := hO.sl RC.elem
      go_wp2_with fail
      go_ret2
      exact ⟨hE1.trans hE, .slice oo q co, rfl, oo, co, by rw [hlq.out], hc, hs⟩
end Go.Proofs.YtjbhcniiioepgaaGreat


namespace Go.Proofs.YtjbhcniiioepgaaGreat
open Go.RowKit Go.Rep Go.Lim Go.Lin

end Go.Proofs.YtjbhcniiioepgaaGreat


namespace Go.Lin
theorem ent_at {m : Mat} {i j : Nat} (hi : i < m.length) (hj : j < m[i].length) : m[i][j] = ent m i j := by
  unfold ent
  rw [show m.getD i [] = m[i] by simp [List.getD_eq_getElem?_getD, hi], List.getD_eq_getElem?_getD, List.getElem?_eq_getElem hj]; rfl
theorem colsL_shp {m : Mat} {n c : Nat} (h : Shp n c m) (hc : n = 0 → c = 0) : colsL m = c := by
  by_cases hn : 0 < n
  · have h0 : 0 < m.length := by rw [h.1]; exact hn
    rw [colsL_pos h0]; exact h.2 _ (List.getElem_mem _)
  · have : m = [] := List.eq_nil_of_length_eq_zero (by rw [h.1]; omega)
    subst this; rw [hc (by omega)]; rfl
end Go.Lin
namespace Go.Proofs.YtjbhcniiioepgaaGreat
open Go.RowKit Go.Rep Go.Lim Go.Lin

theorem rcolumns {R : Mem → Value → Rat → Prop} (X : Nat → Bool) (w : World) (u : Value) (m : List (List Rat)) (hu : SlV (SlV R 3) 1 (mk X w) u m) : Calls Tryz.prog 100 #[u] w (fun e w' => w' = w ∧ e = .returned (.int .i64 (colsL m : Int))) := by
  obtain ⟨ao, ca, rfl, hca, hsa⟩ := hu
  have hha := hsa.hd
  by_cases h : 0 < m.length
  · obtain ⟨a1, c1, hX1, hc1, hcl1, hq1⟩ := hsa.row 0 h
    have k00 := hc1.out noY w (ExtX.refl _) rfl
    have hc := hid (colsL_pos h)
    have hI : ((m.length : Int) == 0) = false := beqF (by omega)
    go_enter Tryz.func100, Tryz.ntmps100
    go_wp2_with (with_reducible refine up_ix1 slRats (by omega) (by assumption) ?_)
    go_ret
    exact ⟨rfl, ret_int (by rw [hc.out])⟩
  · have hc : Hid (colsL m = 0) := hid (by
      have : m = [] := List.eq_nil_of_length_eq_zero (by omega)
      subst this; rfl)
    have hI : ((m.length : Int) == 0) = true := beqT (by omega)
    go_enter Tryz.func100, Tryz.ntmps100
    go_wp2_with (with_reducible refine up_ix1 slRats (by omega) (by assumption) ?_)
    go_ret
    exact ⟨rfl, ret_int (by rw [hc.out]; rfl)⟩

set_option maxRecDepth 100000 in
theorem rformed {R : Mem → Value → Rat → Prop} (hR : Mono R) (X : Nat → Bool) (w : World) (u : Value) (m : List (List Rat)) (hu : SlV (SlV R 3) 1 (mk X w) u m) (hl : m.length ≤ 1099511627776) : Calls Tryz.prog 93 #[u] w (BOut w (formedB m)) := by
  obtain ⟨ao, ca, rfl, hca, hsa⟩ := hu
  have hha := hsa.hd
  by_cases h96 : 96 < m.length
  · have hv : Hid (false = formedB m) := hid (by
      symm
      cases hf : formedB m
      · rfl
      · have := (formedB_true.1 hf).1; omega)
    have hI : (96 : Int) < (m.length : Int) := by omega
    go_enter Tryz.func93, Tryz.ntmps93
    go_wp2_with fail
    go_ret
    exact ⟨ExtX.refl _, ret_bool hv.out⟩
  · have hI : ¬ (96 : Int) < (m.length : Int) := by omega
    obtain ⟨n, hn⟩ : ∃ n, m.length = n := ⟨_, rfl⟩
    have hn' := hid hn
    have hn6 : n ≤ 96 := by omega
    rw [hn] at hha hI ⊢
    clear hn hl h96 hca
    go_enter Tryz.func93, Tryz.ntmps93
    go_wp2_with fail
    go_loopw [3] (fun c wr => ∃ (i : Nat), c = .int .i64 i ∧ i ≤ n ∧ Hid (∀ q, q < i → ∀ hq : q < m.length, 1 ≤ m[q].length ∧ m[q].length ≤ 96 ∧ m[q].length = colsL m) ∧ Ext w wr) (fun c _ => n - (intOf c).toNat)
    case atStart => exact ⟨0, rfl, Nat.zero_le _, hid (fun q hq => by omega), ExtX.refl _⟩
    case round =>
      obtain ⟨i, rfl, hi, hok, hE⟩ := hrel
      by_cases hlt : i < n
      · have hil : i < m.length := by rw [hn'.out]; exact hlt
        have h0 : 0 < m.length := by omega
        have hsr := hsa.mono (SlV.mono hR 3) (mk_ext hE)
        obtain ⟨a1, c1, hX1, hc1, hcl1, hq1⟩ := hsr.row i hil
        obtain ⟨a2, c2, hX2, hc2, hcl2, hq2⟩ := hsr.row 0 h0
        have k00 := hc1.out noY wr (ExtX.refl _) rfl
        have k10 := hc2.out noY wr (ExtX.refl _) rfl
        have i1 : ∀ W, (Instr.indexAt 23 (.slice ao n ca) (.int .i64 (i : Int))).run Tryz.prog W = .ok (.pointer (some (adr ao i))) W := run_ix1 slRats ao n ca .i64 i hha (by omega) rfl
        have i0 : ∀ W, (Instr.indexAt 23 (.slice ao n ca) (.int .i64 0)).run Tryz.prog W = .ok (.pointer (some (adr ao 0))) W := run_ix1 slRats ao n ca .i64 0 hha (by omega) rfl
        have hcol := colsL_pos h0
        have hno := hid (formedB_false i hil)
        rw [← hcol] at k10
        obtain ⟨x, hx⟩ : ∃ x, m[i].length = x := ⟨_, rfl⟩
        obtain ⟨y, hy⟩ : ∃ y, colsL m = y := ⟨_, rfl⟩
        rw [hx] at k00 hno
        rw [hy] at k10 hno
        have hst : Hid (1 ≤ x ∧ x ≤ 96 ∧ x = y → ∀ hq : i < m.length, 1 ≤ m[i].length ∧ m[i].length ≤ 96 ∧ m[i].length = colsL m) := hid fun h hq => by rw [hx, hy]; exact h
        clear hx hy hcol hc1 hc2 hq1 hq2 hcl1 hcl2 h0 hil
        by_cases hx0 : x = 0
        · have d0 : decide ((x : Int) < 1) = true := decide_eq_true (by omega)
          have hv := hid (hno.out (by omega))
          clear hx0 hno hst
          go_wp2_with fail
          go_region
          all_goals
            clear k00 k10 i1 i0
            go_wp2_with fail
            go_ret
            exact ⟨hE.trans (ExtX.refl wr).drew, ret_bool hv.out⟩
        · have d0 : decide ((x : Int) < 1) = false := decide_eq_false (by omega)
          by_cases hx1 : 96 < x
          · have d1 : decide ((96 : Int) < (x : Int)) = true := decide_eq_true (by omega)
            have hv := hid (hno.out (by omega))
            clear hx0 hno hst
            go_wp2_with fail
            go_region
            all_goals
              clear k00 k10 i1 i0
              go_wp2_with fail
              go_ret
              exact ⟨hE.trans (ExtX.refl wr).drew, ret_bool hv.out⟩
          · have d1 : decide ((96 : Int) < (x : Int)) = false := decide_eq_false (by omega)
            by_cases hxy : x = y
            · have d2 : ((x : Int) != (y : Int)) = false := bneF (by omega)
              have hst2 := hid (hst.out ⟨by omega, by omega, hxy⟩)
              clear hx0 hxy hno hst hx1
              go_wp2_with fail
              go_region
              all_goals
                clear k00 k10 i1 i0
                go_wp2_with fail
                go_roundw
                case rel => exact ⟨i + 1, by go_num, by omega, hid (upto_succ hok.out hst2.out), hE.trans (ExtX.refl wr).drew⟩
                case measure => simp [intOf]; omega
            · have d2 : ((x : Int) != (y : Int)) = true := bneT (by omega)
              have hv := hid (hno.out (by omega))
              clear hx0 hxy hno hst hx1
              go_wp2_with fail
              go_region
              all_goals
                clear k00 k10 i1 i0
                go_wp2_with fail
                go_ret
                exact ⟨hE.trans (ExtX.refl wr).drew, ret_bool hv.out⟩
      · have hv : Hid (true = formedB m) := hid (by
          symm
          exact formedB_true.2 ⟨by rw [hn'.out]; omega, fun q hq => hok.out q (by rw [hn'.out] at hq; omega) hq⟩)
        go_wp2_with fail
        go_ret
        exact ⟨hE, ret_bool hv.out⟩
end Go.Proofs.YtjbhcniiioepgaaGreat


namespace Go.Lin
end Go.Lin
namespace Go.Proofs.YtjbhcniiioepgaaGreat
open Go.RowKit Go.Rep Go.Lim Go.Lin

end Go.Proofs.YtjbhcniiioepgaaGreat


namespace Go.Lin
end Go.Lin
namespace Go.Proofs.YtjbhcniiioepgaaGreat
open Go.RowKit Go.Rep Go.Lim Go.Lin

end Go.Proofs.YtjbhcniiioepgaaGreat


namespace Go.Rep
open Go.RowKit Go.Lim
/-- What is hidden beside the pivots: X and the factor's block. -/
abbrev hidF (X : Nat → Bool) (fb : Nat) : Nat → Bool := un X (some ⟨fb, 0, none⟩)
/-- All that is hidden. -/
abbrev hidZ (X : Nat → Bool) (fb : Nat) (po oo : Option Addr) : Nat → Bool := un (un (hidF X fb) po) oo
structure RS (X : Nat → Bool) (w0 : World) (b fb base : Nat) (T1 T2 T3 : TypeId) (w : World) (oo : Option Addr) (co : Nat) (po : Option Addr) (pc : Nat) (M : List (List Rat)) (p : List Nat) (f : Rat) : Prop where
  rows : OL RC 1 (un (hidF X fb) po) base T1 w oo co M
  piv : OL (NatIn .i64) 1 (un (hidF X fb) oo) base T3 w po pc p
  fac : ∃ s a n c d k e, Bx w fb #[.bool s, .slice a n c, .slice d k e] T2 ∧ QC (mk (hidZ X fb po oo) w) (.agg #[.bool s, .slice a n c, .slice d k e]) f
  hx : HX X w
  res : Bx w b #[.bool false, .slice none 0 0, .slice none 0 0] T2
  rb : X b = true
  fb0 : fb ≠ b
  ext : Ext w0 w
  low : w0.heap.size ≤ base
  lowf : w0.heap.size ≤ fb
section
variable {X : Nat → Bool} {w0 w w' : World} {b fb base : Nat} {T1 T2 T3 : TypeId} {oo po : Option Addr} {co pc : Nat} {M M' : List (List Rat)} {p : List Nat} {f f' : Rat}
theorem RS.oF (h : RS X w0 b fb base T1 T2 T3 w oo co po pc M p f) : ob oo fb = false := by
  cases hb : ob oo fb
  · rfl
  · have := h.rows.1 fb hb; rw [un_left (un_right (ob_self fb))] at this; simp at this
theorem RS.pF (h : RS X w0 b fb base T1 T2 T3 w oo co po pc M p f) : ob po fb = false := by
  cases hb : ob po fb
  · rfl
  · have := h.piv.1 fb hb; rw [un_left (un_right (ob_self fb))] at this; simp at this
theorem RS.oB (h : RS X w0 b fb base T1 T2 T3 w oo co po pc M p f) : ob oo b = false := by
  cases hb : ob oo b
  · rfl
  · have := h.rows.1 b hb; rw [un_left (un_left h.rb)] at this; simp at this
theorem RS.pB (h : RS X w0 b fb base T1 T2 T3 w oo co po pc M p f) : ob po b = false := by
  cases hb : ob po b
  · rfl
  · have := h.piv.1 b hb; rw [un_left (un_left h.rb)] at this; simp at this
theorem RS.po_oo (h : RS X w0 b fb base T1 T2 T3 w oo co po pc M p f) (k : Nat) (hk : ob po k = true) : ob oo k = false := (un_false (h.piv.1 k hk)).2
theorem RS.flt (h : RS X w0 b fb base T1 T2 T3 w oo co po pc M p f) : fb < w.heap.size := by
  obtain ⟨_, _, _, _, _, _, _, h1, _⟩ := h.fac; exact h1.lt
/-- All that is hidden is there. -/
theorem RS.hz (h : RS X w0 b fb base T1 T2 T3 w oo co po pc M p f) : HX (hidZ X fb po oo) w := fun k hk => by
  by_cases h1 : ob oo k = true
  · exact (h.rows.block h1).2
  · by_cases h2 : ob po k = true
    · exact (h.piv.block h2).2
    · by_cases h3 : X k = true
      · exact h.hx k h3
      · have h1' : ob oo k = false := by simpa using h1
        have h2' : ob po k = false := by simpa using h2
        have h3' : X k = false := by simpa using h3
        have h4 : ob (some ⟨fb, 0, none⟩) k = true := by simpa [hidZ, hidF, un, h1', h2', h3'] using hk
        have : fb = k := by simpa [ob] using h4
        rw [← this]; exact h.flt
/-- Its rows, read outside of all of it. -/
theorem RS.row (h : RS X w0 b fb base T1 T2 T3 w oo co po pc M p f) (i : Nat) (hi : i < M.length) : ∃ a c, w.cell? (adr oo i) = some (.slice a M[i].length c) ∧ w.frozen? (adr oo i) = false ∧ M[i].length ≤ c ∧ Sl QC 3 (_root_.Go.Rep.mk (hidZ X fb po oo) w) a M[i] := by
  obtain ⟨u, h1, h2, a, c, rfl, h4, h5⟩ := h.rows.cell SlV.one i hi
  exact ⟨a, c, h1, h2, h4, h5⟩
theorem RS.ext0 (h : RS X w0 b fb base T1 T2 T3 w oo co po pc M p f) (hE : Ext w w') : RS X w0 b fb base T1 T2 T3 w' oo co po pc M p f := by
  obtain ⟨s, a, n, c, d, k, e, h1, h2⟩ := h.fac
  exact ⟨h.rows.ext0 RC.elem hE, h.piv.ext0 (NatIn.elem _) hE, ⟨s, a, n, c, d, k, e, h1.ext0 hE, mkx QC.mono h2 hE⟩, h.hx.ext hE, h.res.ext0 hE, h.rb, h.fb0, h.ext.trans hE, h.low, h.lowf⟩
/-- Rows were written. -/
theorem RS.setRows (h : RS X w0 b fb base T1 T2 T3 w oo co po pc M p f) (hE : ExtX (ob oo) w w') (hO : OL RC 1 (un (hidF X fb) po) base T1 w' oo co M') : RS X w0 b fb base T1 T2 T3 w' oo co po pc M' p f := by
  obtain ⟨s, a, n, c, d, k, e, h1, h2⟩ := h.fac
  exact ⟨hO, h.piv.frame (NatIn.pure _) hE (fun k hk => h.po_oo k hk) h.piv.1, ⟨s, a, n, c, d, k, e, h1.ext hE h.oF, QC.mono _ _ _ _ (mk_mono hE fun k hk => un_right hk) h2⟩, h.hx.ext hE, h.res.ext hE h.oB, h.rb, h.fb0, h.ext.own h.rows h.low hE, h.low, h.lowf⟩
/-- The factor was written. -/
theorem RS.setFac (h : RS X w0 b fb base T1 T2 T3 w oo co po pc M p f) (hE : ExtX (ob (some ⟨fb, 0, none⟩)) w w') {s : Bool} {a : Option Addr} {n c : Nat} {d : Option Addr} {k e : Nat} (hB : Bx w' fb #[.bool s, .slice a n c, .slice d k e] T2) (hq : QC (_root_.Go.Rep.mk (hidZ X fb po oo) w') (.agg #[.bool s, .slice a n c, .slice d k e]) f') : RS X w0 b fb base T1 T2 T3 w' oo co po pc M p f' := by
  have hf : ∀ k, ob (some ⟨fb, 0, none⟩) k = true → k = fb := fun k hk => by
    have : fb = k := by simpa [ob] using hk
    exact this.symm
  refine ⟨h.rows.ext RC.elem hE (fun k _ hk => un_left (un_right hk)) (fun _ _ h => h), h.piv.frame (NatIn.pure _) hE (fun k hk => ?_) h.piv.1, ⟨s, a, n, c, d, k, e, hB, hq⟩, h.hx.ext hE, h.res.ext hE (ob_other (Ne.symm h.fb0)), h.rb, h.fb0, h.ext.then_ hE fun k hk _ => ?_, h.low, h.lowf⟩
  · cases hb : ob (some ⟨fb, 0, none⟩) k
    · rfl
    · have := hf k hb; subst this; rw [h.pF] at hk; simp at hk
  · cases hb : ob (some ⟨fb, 0, none⟩) k
    · rfl
    · have := hf k hb; have := h.lowf; omega
/-- A pivot was appended. -/
theorem RS.push (h : RS X w0 b fb base T1 T2 T3 w oo co po pc M p f) {po2 : Option Addr} {pc2 j : Nat} (hE : ExtX (ob po) w w') (hP : OL (NatIn .i64) 1 (un (hidF X fb) oo) base T3 w' po2 pc2 (p ++ [j])) (hor : po2 = po ∨ ∃ g, po2 = some ⟨g, 0, none⟩ ∧ w.heap.size ≤ g) : RS X w0 b fb base T1 T2 T3 w' oo co po2 pc2 M (p ++ [j]) f := by
  obtain ⟨s, a, n, c, d, k, e, h1, h2⟩ := h.fac
  have hold : ∀ k, k < w.heap.size → ob po2 k = true → ob po k = true := fun k hk h9 => by
    rcases hor with rfl | ⟨g, rfl, hg⟩
    · exact h9
    · have : g = k := by simpa [ob] using h9
      omega
  have hF : ∀ k, k < w.heap.size → un (hidF X fb) po2 k = true → un (hidF X fb) po k = true := fun k hk hz => by
    by_cases hx : hidF X fb k = true
    · exact un_left hx
    · exact un_right (hold k hk (by simpa [un, hx] using hz))
  refine ⟨h.rows.ext RC.elem hE (fun k _ hk => un_right hk) hF, hP, ⟨s, a, n, c, d, k, e, h1.ext hE h.pF, QC.mono _ _ _ _ (mk_over hE (fun k _ hk => un_left (un_right hk)) fun k hk hz => ?_) h2⟩, h.hx.ext hE, h.res.ext hE h.pB, h.rb, h.fb0, h.ext.own h.piv h.low hE, h.low, h.lowf⟩
  by_cases ho : ob oo k = true
  · exact un_right ho
  · exact un_left (hF k hk (by simpa [un, ho] using hz))
end
end Go.Rep


namespace Go.Lin
open Go.Lim
/-- Bounds that the reference's elimination keeps. -/
def TameR (m : Mat) (c : Nat) : Prop := ∃ B, 6 * B ≤ 68719476736 ∧ ∀ j, j ≤ c → HB B (rN m j).1 ∧ hq (rN m j).2.2 ≤ B
theorem rN_plen {n c : Nat} {m : Mat} (hs : Shp n c m) (k : Nat) : (rN m k).2.1.length ≤ n := (rN_ok hs k).ref.le
theorem tamer_of {n c B : Nat} {m : Mat} (hs : Shp n c m) (h : HB B m) (hB : 6 * (6 ^ n * B) ≤ 68719476736) : TameR m c :=
  ⟨6 ^ n * B, hB, fun j _ => by
    obtain ⟨h1, h2⟩ := h.rN hs j
    have hp : 6 ^ (rN m j).2.1.length * B ≤ 6 ^ n * B := Nat.mul_le_mul_right _ (Nat.pow_le_pow_right (by decide) (rN_plen hs j))
    exact ⟨h1.mono hp, Nat.le_trans h2 hp⟩⟩
theorem rN_succ (m : Mat) (k : Nat) : rN m (k + 1) = rStep (rN m k) k := rfl
theorem getD_row' {m : Mat} {i : Nat} (h : i < m.length) : m.getD i [] = m[i] := by simp [List.getD_eq_getElem?_getD, h]
theorem ent_row {m : Mat} {i : Nat} (h : i < m.length) (j : Nat) : ent m i j = (m[i]).getD j 0 := by unfold ent; rw [getD_row' h]
theorem nz_none {m : Mat} {n t col : Nat} (hl : m.length = n) (h : ∀ q, t ≤ q → q < n → ent m q col = 0) : nzAt m t col = none := by
  unfold nzAt
  rw [List.findIdx?_eq_none_iff]
  intro r hr
  obtain ⟨i, hi, rfl⟩ := List.getElem_of_mem hr
  rw [List.length_drop] at hi
  have := h (t + i) (by omega) (by omega)
  rw [ent_row (by omega)] at this
  simpa using this
theorem nz_some {m : Mat} {n t col a : Nat} (hl : m.length = n) (h : ∀ q, t ≤ q → q < t + a → ent m q col = 0) (ha : t + a < n) (hne : ent m (t + a) col ≠ 0) : nzAt m t col = some a := by
  unfold nzAt
  rw [List.findIdx?_eq_some_iff_getElem]
  refine ⟨by rw [List.length_drop]; omega, ?_, fun j hj => ?_⟩
  · rw [List.getElem_drop, ← ent_row (by omega)]; simpa using hne
  · rw [List.getElem_drop, ← ent_row (by omega)]; simpa using h (t + j) (by omega) (by omega)
theorem out_zero (m : Mat) (t col : Nat) : out m t col 0 = m := by
  unfold out rows
  refine List.ext_getElem (by simp) fun q h1 h2 => ?_
  rw [List.getElem_mapIdx, if_neg (by omega)]
theorem out_len (m : Mat) (t col s : Nat) : (out m t col s).length = m.length := by simp [out, rows]
theorem out_get {m : Mat} {t col s i : Nat} (h : i < (out m t col s).length) (h2 : i < m.length) : (out m t col s)[i] = if i ≠ t ∧ i < s then List.zipWith (· + ·) m[i] ((m.getD t []).map (· * - m[i].getD col 0)) else m[i] := by
  show (m.mapIdx _)[i]'(by simpa using h2) = _
  rw [List.getElem_mapIdx]
theorem out_set {m : Mat} {t col s : Nat} (h : s < m.length) (hst : s ≠ t) : (out m t col s).set s (List.zipWith (· + ·) m[s] ((m.getD t []).map (· * - m[s].getD col 0))) = out m t col (s + 1) := by
  refine List.ext_getElem (by simp [out_len]) fun q h1 h2 => ?_
  have hq : q < m.length := by rw [out_len] at h2; exact h2
  rw [List.getElem_set, out_get h2 hq]
  split
  · subst_vars; rw [if_pos ⟨hst, by omega⟩]
  · rw [out_get (by simpa [out_len] using hq) hq]
    by_cases a : q ≠ t ∧ q < s
    · rw [if_pos a, if_pos ⟨a.1, by omega⟩]
    · rw [if_neg a, if_neg (by omega)]
theorem out_skip {m : Mat} {t col : Nat} : out m t col t = out m t col (t + 1) := by
  refine List.ext_getElem (by simp [out_len]) fun q h1 h2 => ?_
  have hq : q < m.length := by rw [out_len] at h2; exact h2
  rw [out_get h1 hq, out_get h2 hq]
  by_cases a : q ≠ t ∧ q < t
  · rw [if_pos a, if_pos ⟨a.1, by omega⟩]
  · rw [if_neg a, if_neg (by omega)]
theorem swapL_set {m : Mat} {i k : Nat} (hi : i < m.length) (hk : k < m.length) : (m.set i m[k]).set k m[i] = swapL m i k := by
  unfold swapL; rw [getD_row' hi, getD_row' hk]
/-- One step of the reference's elimination that finds a pivot. -/
theorem rN_piv {n c : Nat} {m M : Mat} {P : List Nat} {f : Rat} {j pl a : Nat} (hs : Shp n c m) (hst : rN m j = (M, P, f)) (hpl : P.length = pl) (hz : ∀ q, pl ≤ q → q < pl + a → ent M q j = 0) (ha : pl + a < n) (hne : ent M (pl + a) j ≠ 0) :
    rN m (j + 1) = (out (pv (swapL M (pl + a) pl) pl j) pl j n, P ++ [j], (if a = 0 then f else - f) * ent (swapL M (pl + a) pl) pl j) := by
  have hM : Shp n c M := by have := (rN_ok hs j).shp; rw [hst] at this; exact this
  subst hpl
  rw [rN_succ, hst]
  unfold rStep
  dsimp only
  rw [nz_some hM.1 hz ha hne]
  dsimp only
  rw [hM.1]
theorem rN_none {n c : Nat} {m M : Mat} {P : List Nat} {f : Rat} {j pl : Nat} (hs : Shp n c m) (hst : rN m j = (M, P, f)) (hpl : P.length = pl) (hz : ∀ q, pl ≤ q → q < n → ent M q j = 0) : rN m (j + 1) = (M, P, f) := by
  have hM : Shp n c M := by have := (rN_ok hs j).shp; rw [hst] at this; exact this
  subst hpl
  rw [rN_succ, hst]
  unfold rStep
  dsimp only
  rw [nz_none hM.1 hz]
end Go.Lin
namespace Go.Rep
open Go.RowKit
theorem ob_hid {X : Nat → Bool} {b k : Nat} (h : X b = true) (hk : ob (some ⟨b, 0, none⟩) k = true) : X k = true := by
  have : b = k := by simpa [ob] using hk
  subst this; exact h
section
variable {P : Program} {w : World}
/-- The last result of three lies in a block. -/
theorem results_ttb {fn : Func} {tmps : Array Value} {c d e : Tmp} {t : TypeId} {n b : Nat} {cs : Array Value} {T : TypeId} (h : fn.results = #[.tmp d, .tmp e, .cell c t]) (hp : tmps.getD c undef = .pointer (some ⟨b, 0, none⟩)) (hT : StructT P t n) (hb : Bx w b cs T) (hcs : cs.size = n) :
    (results fn tmps).run P w = .ok (.tuple #[tmps.getD d undef, tmps.getD e undef, .agg cs]) w := by
  have hl := run_loadBox (P := P) hT hb hcs
  rw [Array.getD_eq_getD_getElem?] at hp
  simp [results, h, hp, asAddr, hl]
end
end Go.Rep


namespace Go
section
variable {P : Program} {ops : Array Oper} {Q : Exit → Act → World → Prop} {md : Region.Mode} {S : World → Prop} {n : Nat}
/-- Whatever order is picked from here on, and S holds behind every operation ahead of number n that is carried out. -/
def wpAnyK (P : Program) (md : Region.Mode) (ops : Array Oper) (Q : Exit → Act → World → Prop) (S : World → Prop) (n : Nat) : Nat → Array Bool → Act → World → Prop
  | 0, listed, a, w => Region.ready md ops listed = [] ∧ Q .normal a w
  | fuel + 1, listed, a, w =>
    (Region.ready md ops listed = [] → Q .normal a w) ∧
    ∀ i ∈ Region.ready md ops listed, wpOp P ops Q i (fun a' w' => (i < n → S w') ∧ wpAnyK P md ops Q S n fuel (listed.setIfInBounds i true) a' w') a w
theorem wpAny_of_K : ∀ (fuel : Nat) (listed : Array Bool) (a : Act) (w : World), wpAnyK P md ops Q S n fuel listed a w → wpAny P md ops Q fuel listed a w
  | 0, _, _, _, h => h
  | fuel + 1, _, _, _, h => ⟨h.1, fun i hi => wpOp_mono (fun a' w' h' => wpAny_of_K fuel _ a' w' h'.2) (h.2 i hi)⟩
theorem wpAnyK_first {i : Nat} {oi : Oper} {v : Value} (hs : Region.sinkB md ops n = true) (hc : Region.chainB md ops n = true) (hn : n < ops.size) (hin : i < n) (hi : ops[i]? = some oi) (hsel : ∀ (j : Nat) (o : Oper) cs b, ops[j]? = some o → o.op ≠ .select cs b)
    (hQ : ∀ c a w, Q (.panic c) (a.put oi.dst v) w → Q (.panic c) a w) :
    ∀ (fuel : Nat) (listed : Array Bool) (a : Act) (w : World), HeadInv md ops n listed →
      (∀ j oj, ops[j]? = some oj → j ≠ i → listed.getD j true = false → (∀ e ∈ oj.after, Region.binds md e = true → e.on ≠ i) → oi.apart ops oj = true) →
      i ∈ Region.ready md ops listed → YieldsIf P ops S oi v a → S w →
      wpAnyK P md ops Q S n fuel (listed.setIfInBounds i true) (a.put oi.dst v) w → wpAnyK P md ops Q S n (fuel + 1) listed a w := by
  intro fuel
  induction fuel with
  | zero =>
    intro listed a w _ _ hr hy hS H
    refine ⟨fun h => (by rw [h] at hr; cases hr), fun j hj => ?_⟩
    by_cases hji : j = i
    · subst hji; exact hy.wpOp hi hS ⟨fun _ => hS, H⟩
    · have := ready_mono hj hji
      rw [H.1] at this
      cases this
  | succ fuel ih =>
    intro listed a w inv hfree hr hy hS H
    refine ⟨fun h => (by rw [h] at hr; cases hr), fun j hj => ?_⟩
    by_cases hji : j = i
    · subst hji; exact hy.wpOp hi hS ⟨fun _ => hS, H⟩
    · have hjn : j < n := by
        rcases Nat.lt_or_ge j n with h | h
        · exact h
        · exact absurd hj (tail_waits hs hc hn inv (n - i) i rfl hin (mem_ready.1 hr).1 j h)
      have h1 := H.2 j (ready_mono hj hji)
      obtain ⟨hjun, oj, hoj, hall⟩ := mem_ready.1 hj
      have hnot : ∀ e ∈ oj.after, Region.binds md e = true → e.on ≠ i := fun e he hb heq => by
        have h1 := hall e he hb
        have h0 := (mem_ready.1 hr).1
        rw [heq] at h1
        rcases Nat.lt_or_ge i listed.size with h' | h'
        · simp [h'] at h0 h1; rw [h0] at h1; cases h1
        · simp [Array.getElem?_eq_none h'] at h1
      have h2 := wpOp_putIf hoj (hfree j oj hoj hji hjun hnot) (fun cs b => hsel i oi cs b hi) (fun cs b => hsel j oj cs b hoj) hQ hy h1
      have hfree' : ∀ k ok, ops[k]? = some ok → k ≠ i → (listed.setIfInBounds j true).getD k true = false →
          (∀ e ∈ ok.after, Region.binds md e = true → e.on ≠ i) → oi.apart ops ok = true := fun k ok hk hki hun hno => by
        refine hfree k ok hk hki ?_ hno
        by_cases hjk : j = k
        · subst hjk; exact hjun
        · rw [getD_set_ne true hjk] at hun; exact hun
      refine wpOp_mono (fun a' w' h3 => ⟨h3.2.1, ih (listed.setIfInBounds j true) a' w' (inv.set hj hjn) hfree' (ready_mono hr (Ne.symm hji)) h3.1 (h3.2.1 hjn) ?_⟩) h2
      rw [Array.setIfInBounds_comm _ _ hji]
      exact h3.2.2
/-- The invariant of what is listed, asl a Bool. -/
def headB (md : Region.Mode) (ops : Array Oper) (n : Nat) (listed : Array Bool) : Bool :=
  decide (listed.size = ops.size) &&
  ((List.range ops.size).all fun j => !listed.getD j false || (match ops[j]? with | some o => o.after.all fun e => !Region.binds md e || listed.getD e.on false | none => true)) &&
  ((List.range ops.size).all fun t => decide (t < n) || !listed.getD t true)
theorem headB_inv {listed : Array Bool} (h : headB md ops n listed = true) : HeadInv md ops n listed := by
  unfold headB at h
  simp only [Bool.and_eq_true, decide_eq_true_eq] at h
  obtain ⟨⟨h1, h2⟩, h3⟩ := h
  refine ⟨h1, fun j oj hj hl e he hb => ?_, fun t ht ht' => ?_⟩
  · have hlt : j < ops.size := (Array.getElem?_eq_some_iff.1 hj).1
    have h4 := List.all_eq_true.1 h2 j (List.mem_range.2 hlt)
    rw [hl, hj] at h4
    simp only [Bool.not_true, Bool.false_or] at h4
    have h5 := Array.all_eq_true_iff_forall_mem.1 h4 e he
    rw [hb] at h5
    simpa using h5
  · have h4 := List.all_eq_true.1 h3 t (List.mem_range.2 ht')
    simp only [Bool.or_eq_true, decide_eq_true_eq, Bool.not_eq_true'] at h4
    rcases h4 with h4 | h4
    · omega
    · exact h4
/-- What a take asks of the region, asl a Bool. -/
def takeB (md : Region.Mode) (ops : Array Oper) (n i : Nat) (listed : Array Bool) : Bool :=
  decide (i < n) && headB md ops n listed && Region.free md ops listed i && (Region.ready md ops listed).contains i
/-- What is asked once. -/
def onceB (md : Region.Mode) (ops : Array Oper) (n : Nat) : Bool := Region.sinkB md ops n && Region.chainB md ops n && decide (n < ops.size) && Region.noSelect ops
theorem wpAnyK_take {i : Nat} {oi : Oper} {v : Value} {fuel : Nat} {listed : Array Bool} {a : Act} {w : World} (hO : Shut (onceB md ops n = true)) (hi : ops[i]? = some oi)
    (hB : takeB md ops n i listed = true)
    (hQ : ∀ c a w, Q (.panic c) (a.put oi.dst v) w → Q (.panic c) a w) (hS : S w) (hw : Region.wanted oi (yielded ops a.tmps) = true) (hy : ∀ w, S w → (execOp a.eval oi).run P w = .ok (.value v) w)
    (h : wpAnyK P md ops Q S n fuel (listed.setIfInBounds i true) (a.put oi.dst v) w) : wpAnyK P md ops Q S n (fuel + 1) listed a w := by
  unfold takeB at hB
  simp only [Bool.and_eq_true, decide_eq_true_eq] at hB
  obtain ⟨⟨⟨b4, b5⟩, b7⟩, b8⟩ := hB
  have hO := hO.out
  unfold onceB at hO
  simp only [Bool.and_eq_true, decide_eq_true_eq] at hO
  obtain ⟨⟨⟨b1, b2⟩, b3⟩, b6⟩ := hO
  exact wpAnyK_first b1 b2 b3 b4 hi (Region.noSelect_spec b6) hQ fuel listed a w (headB_inv b5) (Region.free_spec hi b7) (by simpa using b8) (.inl ⟨hw, hy⟩) hS h
/-- One alone may come up: behind it S is shown anew. -/
theorem wpAnyK_step {i : Nat} {o : Oper} {fuel : Nat} {listed : Array Bool} {a : Act} {w : World} (hr : Region.ready md ops listed = [i]) (ho : ops[i]? = some o)
    (h : ∀ K' : Act → World → Prop, Shut (∀ a w, S w → (S w → wpAnyK P md ops Q S n fuel (listed.setIfInBounds i true) a w) → K' a w) → if Region.wanted o (yielded ops a.tmps) = true then Oper.wp P o a w K' Q else K' (a.put o.dst undef) w) : wpAnyK P md ops Q S n (fuel + 1) listed a w := by
  refine ⟨fun h0 => (by rw [hr] at h0; cases h0), fun j hj => ?_⟩
  rw [hr] at hj
  have : j = i := by simpa using hj
  subst this
  exact wpOp_step ho (fun K' hK => h K' (fun a w hS hW => hK a w ⟨fun _ => hS, hW hS⟩))
/-- The last operation. -/
theorem wpAnyK_last {i : Nat} {o : Oper} {fuel : Nat} {listed : Array Bool} {a : Act} {w : World} (hr : Region.ready md ops listed = [i]) (ho : ops[i]? = some o) (hin : n ≤ i)
    (hd : Region.ready md ops (listed.setIfInBounds i true) = [])
    (h : ∀ K' : Act → World → Prop, Shut (∀ a w, Q .normal a w → K' a w) → if Region.wanted o (yielded ops a.tmps) = true then Oper.wp P o a w K' Q else K' (a.put o.dst undef) w) : wpAnyK P md ops Q S n (fuel + 1) listed a w := by
  refine ⟨fun h0 => (by rw [hr] at h0; cases h0), fun j hj => ?_⟩
  rw [hr] at hj
  have : j = i := by simpa using hj
  subst this
  refine wpOp_step ho (fun K' hK => h K' (fun a w hq => hK a w ⟨fun hlt => absurd hlt (Nat.not_lt.2 hin), ?_⟩))
  cases fuel with
  | zero => exact ⟨hd, hq⟩
  | succ f => exact ⟨fun _ => hq, by rw [hd]; simp⟩
theorem wp_region_K {id : Nat} {a : Act} {w : World} (n : Nat) (S : World → Prop) (hm : P.follows .mixedOrders = true) (hO : onceB .any ops n = true) (hS : S w.drew)
    (h : S w.drew → Shut (onceB .any ops n = true) → wpAnyK P .any ops Q S n ops.size (Array.replicate ops.size false) a w.drew) : (Code.region id ops true).wp P Q a w :=
  wp_region_any hm (wpAny_of_K _ _ _ _ (h hS hO))
end
end Go

