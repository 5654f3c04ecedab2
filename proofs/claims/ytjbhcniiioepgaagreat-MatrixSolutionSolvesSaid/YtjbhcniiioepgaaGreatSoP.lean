/- Ranks, null vectors and solutions, read off the reduced form. Conditions: none. matrix: formed, columns. Conditions: lengths far below any machine's. Matrices that a call has made itself, row by row, and writes into: what they are, and what each step leaves of them. Conditions: none. Stores into rows and matrices that a call has made itself, as the walk writes them; readings beside them. Conditions: none. matrix: zero. Conditions: few rows and columns. -/
import Derived.Test.YtjbhcniiioepgaaGreatSoO
namespace Go.Lin
/-- A matrix of a function's values. -/
def ofF (n c : Nat) (f : F2) : Mat := (List.range n).map fun i => (List.range c).map (f i)
theorem shp_ofF (n c : Nat) (f : F2) : Shp n c (ofF n c f) := ⟨by simp [ofF], fun r hr => by
  obtain ⟨i, _, rfl⟩ := List.mem_map.1 hr; simp⟩
theorem ent_ofF (n c : Nat) (f : F2) : Eqm n c (ent (ofF n c f)) f := fun i hi j hj => by simp [ent, ofF, List.getD_eq_getElem?_getD, hi, hj]
theorem RE.congr {n c : Nat} {f f' g : F2} {d : Rat} (h : RE n c f g d) (e : Eqm n c f' f) : RE n c f' g d := (RE.same e).then_ h (by grind)
/-- Any matrix has a reduced form. -/
theorem rref_ex (n c : Nat) (f : F2) : ∃ r p d, Rref n c r p ∧ RE n c f r d := by
  obtain ⟨_, h2, d, h3⟩ := redP_ok (shp_ofF n c f)
  exact ⟨_, _, d, h2, h3.congr fun i hi j hj => (ent_ofF n c f i hi j hj).symm⟩
/-- Row operations on a product are row operations on its first factor. -/
theorem RE.factor {n c r : Nat} {f g : F2} {d : Rat} (h : RE n c f g d) (b : F2) (hf : ∃ a, Eqm n c f (mul r a b)) : ∃ a, Eqm n c g (mul r a b) := by
  induction h with
  | same h => obtain ⟨a, ha⟩ := hf; exact ⟨a, fun i hi j hj => (h i hi j hj).symm.trans (ha i hi j hj)⟩
  | swap i k hi hk hik h1 h2 h3 =>
    obtain ⟨a, ha⟩ := hf
    refine ⟨fun q => if q = i then a k else if q = k then a i else a q, fun q hq j hj => ?_⟩
    by_cases e : q = i
    · subst e; rw [h1 j hj, ha k hk j hj]; simp [mul]
    · by_cases e2 : q = k
      · subst e2; rw [h2 j hj, ha i hi j hj]; simp [mul, e]
      · rw [h3 q hq e e2 j hj, ha q hq j hj]; simp [mul, e, e2]
  | scale i x hi hx h1 h3 =>
    obtain ⟨a, ha⟩ := hf
    refine ⟨fun q => if q = i then fun k => x * a i k else a q, fun q hq j hj => ?_⟩
    by_cases e : q = i
    · subst e; rw [h1 j hj, ha q hq j hj]; simp only [mul, if_true]; rw [← sm_mul]; exact sm_congr fun k _ => by grind
    · rw [h3 q hq e j hj, ha q hq j hj]; simp [mul, e]
  | add i k x hi hk hik h1 h3 =>
    obtain ⟨a, ha⟩ := hf
    refine ⟨fun q => if q = i then fun y => a i y + x * a k y else a q, fun q hq j hj => ?_⟩
    by_cases e : q = i
    · subst e; rw [h1 j hj, ha q hq j hj, ha k hk j hj]; simp only [mul, if_true]; rw [← sm_mul, ← sm_add]; exact sm_congr fun k _ => by grind
    · rw [h3 q hq e j hj, ha q hq j hj]; simp [mul, e]
  | trans _ _ ih1 ih2 => exact ih2 (ih1 hf)
/-- A product over r numbers has at most r pivots. -/
theorem rank_le {n c r : Nat} {f g : F2} {p : List Nat} {d : Rat} (hg : Rref n c g p) (h : RE n c f g d) (a b : F2) (hf : Eqm n c f (mul r a b)) : p.length ≤ r := by
  refine Classical.byContradiction fun hlt => ?_
  obtain ⟨t, ht⟩ := h.factor b ⟨a, hf⟩
  obtain ⟨s, q, e, hs, he⟩ := rref_ex r p.length (fun k i => t i k)
  have hq : ∃ j, j < p.length ∧ j ∉ q := by
    refine Classical.byContradiction fun hno => ?_
    have hall : ∀ j, j < p.length → j ∈ q := fun j hj => Classical.byContradiction fun h => hno ⟨j, hj, h⟩
    have h1 : (List.range p.length).length ≤ q.length := (List.nodup_range).length_le_of_subset fun j hj => hall j (List.mem_range.1 hj)
    rw [List.length_range] at h1
    have := hs.le
    omega
  obtain ⟨j, hj, hjq⟩ := hq
  have h1 := (he.nul _).2 (hs.nv_nul hjq hj)
  have h2 : ∀ x, x < c → sm p.length (fun i => nv s q j i * g i x) = 0 := fun x hx => by
    have e1 : sm p.length (fun i => nv s q j i * g i x) = sm p.length (fun i => sm r fun k => (t i k * nv s q j i) * b k x) := sm_congr fun i hi => by
      have := hg.le
      rw [ht i (by omega) x hx]; unfold mul; rw [← sm_mul]; exact sm_congr fun k _ => by grind
    rw [e1, sm_comm]
    exact sm_zero fun k hk => by
      have := h1 k hk
      rw [sm_congr (g := fun i => b k x * (t i k * nv s q j i)) fun i _ => by grind, sm_mul, this]; grind
  have h3 := h2 p[j] (hg.lt j hj)
  rw [sm_one j hj fun i hi hij => by rw [hg.zero j hj i (by have := hg.le; omega) hij]; grind] at h3
  rw [nv_self, hg.one j hj] at h3
  grind
/-- A matrix is the product of its pivot columns and its reduced form. -/
theorem factor_piv {n c : Nat} {f g : F2} {p : List Nat} {d : Rat} (hg : Rref n c g p) (h : RE n c f g d) : Eqm n c f (mul p.length (fun i k => f i (p.getD k 0)) g) := by
  intro i hi j hj
  have hp : ∀ k (hk : k < p.length), p.getD k 0 = p[k] := fun k hk => by simp [List.getD_eq_getElem?_getD, hk]
  have hpl := hg.le
  have key : ∀ (F : F2) (i : Nat), sm c (fun x => F i x * ((if x = j then 1 else 0) - sm p.length fun k => if x = p.getD k 0 then g k j else 0)) = F i j - sm p.length (fun k => F i (p.getD k 0) * g k j) := fun F i => by
    have e1 : sm c (fun x => F i x * ((if x = j then 1 else 0) - sm p.length fun k => if x = p.getD k 0 then g k j else 0)) = sm c (fun x => (if x = j then F i j else 0) - sm p.length fun k => if x = p.getD k 0 then F i x * g k j else 0) := sm_congr fun x _ => by
      have : F i x * sm p.length (fun k => if x = p.getD k 0 then g k j else 0) = sm p.length fun k => if x = p.getD k 0 then F i x * g k j else 0 := by
        rw [← sm_mul]; exact sm_congr fun k _ => by split <;> grind
      rw [← this]; split
      · subst_vars; grind
      · grind
    rw [e1, sm_sub, sm_one j hj fun x _ hx => by simp [hx], sm_comm]
    simp only [if_true]
    congr 1
    exact sm_congr fun k hk => by
      rw [hp k hk, sm_one p[k] (hg.lt k hk) fun x _ hx => by simp [hx]]; simp
  have hn : Nul n c g (fun x => (if x = j then 1 else 0) - sm p.length fun k => if x = p.getD k 0 then g k j else 0) := fun q hq => by
    rw [key g q]
    by_cases hqp : q < p.length
    · rw [sm_one q hqp fun k hk hkq => by rw [hp k hk, hg.zero k hk q hq (by omega)]; grind]
      rw [hp q hqp, hg.one q hqp]; grind
    · rw [hg.below q (by omega) hq j hj, sm_zero fun k hk => by rw [hp k hk, hg.below q (by omega) hq _ (hg.lt k hk)]; grind]; grind
  have h1 := (h.nul _).2 hn i hi
  rw [key f i] at h1
  show f i j = sm p.length fun k => f i (p.getD k 0) * g k j
  grind
/-- Rank and transposition. -/
theorem rank_tr {n c : Nat} {f r s : F2} {p q : List Nat} {d e : Rat} (hr : Rref n c r p) (h1 : RE n c f r d) (hs : Rref c n s q) (h2 : RE c n (fun i j => f j i) s e) : p.length = q.length := by
  have a1 := factor_piv hr h1
  have a2 := factor_piv hs h2
  have b1 : q.length ≤ p.length := rank_le hs h2 (fun j k => r k j) (fun k i => f i (p.getD k 0)) fun i hi j hj => by
    show f j i = _
    rw [a1 j hj i hi]; exact sm_congr fun k _ => by grind
  have b2 : p.length ≤ q.length := rank_le hr h1 (fun j k => s k j) (fun k i => (fun i j => f j i) i (q.getD k 0)) fun i hi j hj => by
    have := a2 j hj i hi
    rw [show f i j = (fun i j => f j i) j i from rfl, this]; exact sm_congr fun k _ => by grind
  omega
/-- Independent rows are as many as pivots. -/
theorem LI.full {n c : Nat} {f r : F2} {p : List Nat} {d : Rat} (hf : LI n c f) (hr : Rref n c r p) (h : RE n c f r d) : p.length = n := by
  have hle := hr.le
  refine Classical.byContradiction fun hne => ?_
  have := (h.li hf) (fun i => if i = p.length then 1 else 0) (fun j hj => by
    unfold cmb
    rw [sm_one p.length (by omega) fun i _ hi => by simp [hi]]
    rw [hr.below _ (Nat.le_refl _) (by omega) j hj]; grind) p.length (by omega)
  simp at this

/-- The null vectors, one for each column that is no pivot. -/
def nullL (r : F2) (p : List Nat) (c : Nat) : Mat := ((List.range c).filter (· ∉ p)).map fun j => (List.range c).map (nv r p j)
theorem nullL_len {r : F2} {p : List Nat} {c n : Nat} (h : Rref n c r p) : (nullL r p c).length = c - p.length := by
  have h1 : ((List.range c).filter (· ∉ p)).length + ((List.range c).filter (· ∈ p)).length = c := by
    have key : ∀ l : List Nat, (l.filter (· ∉ p)).length + (l.filter (· ∈ p)).length = l.length := fun l => by
      induction l with
      | nil => rfl
      | cons a l ih => by_cases ha : a ∈ p <;> simp [ha] at ih ⊢ <;> omega
    have := key (List.range c)
    simpa using this
  have h2 : (List.range c).filter (· ∈ p) = p := by
    refine inc_eq _ _ ?_ h.pw fun x => ?_
    · exact List.Pairwise.filter _ List.pairwise_lt_range
    · simp only [List.mem_filter, List.mem_range, decide_eq_true_eq]
      constructor
      · exact fun h => h.2
      · intro hx
        obtain ⟨i, hi, rfl⟩ := List.getElem_of_mem hx
        exact ⟨h.lt i hi, hx⟩
  rw [h2] at h1
  simp only [nullL, List.length_map]; omega
theorem nullL_li (r : F2) (p : List Nat) (c : Nat) : LI (nullL r p c).length c (ent (nullL r p c)) := by
  intro y hy i hi
  have hi' : i < ((List.range c).filter (· ∉ p)).length := by simpa [nullL] using hi
  have hmem := List.getElem_mem hi'
  rw [List.mem_filter, List.mem_range] at hmem
  have h1 := hy _ hmem.1
  have hnp : ((List.range c).filter (· ∉ p))[i] ∉ p := by simpa using hmem.2
  have he : ∀ k (hk : k < ((List.range c).filter (· ∉ p)).length), ent (nullL r p c) k ((List.range c).filter (· ∉ p))[i] = nv r p ((List.range c).filter (· ∉ p))[k] ((List.range c).filter (· ∉ p))[i] := fun k hk => by
    unfold ent nullL
    rw [List.getD_eq_getElem?_getD (l := List.map _ _), List.getElem?_map, List.getElem?_eq_getElem hk]
    simp only [Option.map_some, Option.getD_some]
    rw [List.getD_eq_getElem?_getD, List.getElem?_map, List.getElem?_range hmem.1]; rfl
  unfold cmb at h1
  rw [sm_one i hi fun k hk hki => by
    have hk' : k < ((List.range c).filter (· ∉ p)).length := by simpa [nullL] using hk
    have hne : ((List.range c).filter (· ∉ p))[i] ≠ ((List.range c).filter (· ∉ p))[k] := fun e => by
      have hnd : ((List.range c).filter (· ∉ p)).Pairwise (· < ·) := List.Pairwise.filter _ List.pairwise_lt_range
      rw [List.pairwise_iff_getElem] at hnd
      rcases Nat.lt_or_gt_of_ne hki with a | a
      · have := hnd k i hk' hi' a; omega
      · have := hnd i k hi' hk' a; omega
    rw [he k hk', nv_free hnp hne]; grind, he i hi', nv_self] at h1
  grind

/-- What 'Solve' reads off the reduced form of the widened matrix: 0 for the free unknowns. -/
def solX (r : F2) (p : List Nat) (c : Nat) : Nat → Rat := fun x => match p.findIdx? (· == x) with | some i => r i c | none => 0
/-- The widened matrix. -/
def wideF (c : Nat) (f : F2) (b : Nat → Rat) : F2 := fun i j => if j = c then b i else f i j
theorem wide_nul {n c : Nat} {f : F2} {b : Nat → Rat} (x : Nat → Rat) : Nul n (c + 1) (wideF c f b) (fun j => if j = c then -1 else x j) ↔ ∀ i, i < n → sm c (fun j => f i j * x j) = b i := by
  have key : ∀ i, sm (c + 1) (fun j => wideF c f b i j * (if j = c then -1 else x j)) = sm c (fun j => f i j * x j) - b i := fun i => by
    show sm c _ + _ = _
    rw [sm_congr (g := fun j => f i j * x j) fun j hj => by simp [wideF, show j ≠ c by omega]]
    simp [wideF]; grind
  constructor
  · intro h i hi; have := h i hi; rw [key] at this; grind
  · intro h i hi; rw [key, h i hi]; grind
/-- Feasible exactly if the last column is no pivot; then the solution read off is one. -/
theorem sol_ok {n c : Nat} {f r : F2} {b : Nat → Rat} {p : List Nat} {d : Rat} (hr : Rref n (c + 1) r p) (h : RE n (c + 1) (wideF c f b) r d) (hp : c ∉ p) : ∀ i, i < n → sm c (fun j => f i j * solX r p c j) = b i := by
  refine (wide_nul (solX r p c)).1 ((h.nul _).2 fun i hi => ?_)
  by_cases hip : i < p.length
  · rw [hr.row i hip]
    have h1 : p[i] ≠ c := by rintro rfl; exact hp (List.getElem_mem _)
    rw [if_neg h1, sm_one c (by omega) fun k hk hkc => ?_]
    · simp only [solX, hr.idx i hip, hp, if_false, if_true]; grind
    · split
      · rfl
      · rename_i hkp
        simp only [solX, idx_none hkp]; grind
  · exact sm_zero fun j hj => by rw [hr.below i (by omega) hi j hj]; grind
theorem sol_no {n c : Nat} {f r : F2} {b : Nat → Rat} {p : List Nat} {d : Rat} (hr : Rref n (c + 1) r p) (h : RE n (c + 1) (wideF c f b) r d) (x : Nat → Rat) (hx : ∀ i, i < n → sm c (fun j => f i j * x j) = b i) : c ∉ p := by
  intro hp
  obtain ⟨k, hk, hkc⟩ := List.getElem_of_mem hp
  have h1 := (h.nul _).1 ((wide_nul x).2 hx) k (Nat.lt_of_lt_of_le hk hr.le)
  rw [sm_one c (by omega) fun j hj hjc => by rw [hr.left k hk j (by omega)]; grind] at h1
  have h2 := hr.one k hk
  rw [hkc] at h2
  rw [h2] at h1; simp at h1; grind
end Go.Lin

namespace Go.Lin
/-- Is a matrix well-formed? -/
def formedB {α : Type} (m : List (List α)) : Bool := decide (m.length ≤ 96) && m.all fun r => decide (1 ≤ r.length ∧ r.length ≤ 96 ∧ r.length = (m.getD 0 []).length)
def colsL {α : Type} (m : List (List α)) : Nat := (m.getD 0 []).length
theorem formedB_true {α : Type} {m : List (List α)} : formedB m = true ↔ m.length ≤ 96 ∧ ∀ i (hi : i < m.length), 1 ≤ m[i].length ∧ m[i].length ≤ 96 ∧ m[i].length = colsL m := by
  unfold formedB colsL
  rw [Bool.and_eq_true, decide_eq_true_eq, List.all_eq_true]
  constructor
  · rintro ⟨h1, h2⟩
    exact ⟨h1, fun i hi => by simpa using h2 _ (List.getElem_mem hi)⟩
  · rintro ⟨h1, h2⟩
    refine ⟨h1, fun r hr => ?_⟩
    obtain ⟨i, hi, rfl⟩ := List.getElem_of_mem hr
    simpa using h2 i hi
theorem formedB_false {α : Type} {m : List (List α)} (i : Nat) (hi : i < m.length) (h : ¬ (1 ≤ m[i].length ∧ m[i].length ≤ 96 ∧ m[i].length = colsL m)) : false = formedB m := by
  symm
  cases hf : formedB m
  · rfl
  · exact absurd ((formedB_true.1 hf).2 i hi) h
theorem colsL_pos {α : Type} {m : List (List α)} (h : 0 < m.length) : colsL m = m[0].length := by simp [colsL, List.getD_eq_getElem?_getD, h]
theorem formedB_shp {m : List (List Rat)} (h : formedB m = true) : Shp m.length (colsL m) m ∧ m.length ≤ 96 ∧ colsL m ≤ 96 ∧ (0 < m.length → 1 ≤ colsL m) ∧ (m.length = 0 → colsL m = 0) := by
  have h1 := formedB_true.1 h
  refine ⟨⟨rfl, fun r hr => ?_⟩, h1.1, ?_, fun h0 => ?_, fun h0 => ?_⟩
  · obtain ⟨i, hi, rfl⟩ := List.getElem_of_mem hr
    exact (h1.2 i hi).2.2
  · by_cases h0 : 0 < m.length
    · have := h1.2 0 h0; omega
    · have : m = [] := List.eq_nil_of_length_eq_zero (by omega)
      subst this; simp [colsL]
  · have := h1.2 0 h0; omega
  · have : m = [] := List.eq_nil_of_length_eq_zero h0
    subst this; rfl
end Go.Lin
namespace Go.Proofs.YtjbhcniiioepgaaGreat
open Go.RowKit Go.Rep Go.Lim Go.Lin

theorem columns_any {R : Mem → Value → Rat → Prop} (X : Nat → Bool) (w : World) (u : Value) (m : List (List Rat)) (hu : SlV (SlV R 3) 1 (mk X w) u m) : Calls Tryz.prog 96 #[u] w (fun e w' => w' = w ∧ e = .returned (.int .i64 (colsL m : Int))) := by
  obtain ⟨ao, ca, rfl, hca, hsa⟩ := hu
  have hha := hsa.hd
  by_cases h : 0 < m.length
  · obtain ⟨a1, c1, hX1, hc1, hcl1, hq1⟩ := hsa.row 0 h
    have k00 := hc1.out noY w (ExtX.refl _) rfl
    have hc := hid (colsL_pos h)
    have hI : ((m.length : Int) == 0) = false := beqF (by omega)
    go_enter Tryz.func96, Tryz.ntmps96
    go_wp2_with (with_reducible refine up_ix1 slRats (by omega) (by assumption) ?_)
    go_ret
    exact ⟨rfl, ret_int (by rw [hc.out])⟩
  · have hc : Hid (colsL m = 0) := hid (by
      have : m = [] := List.eq_nil_of_length_eq_zero (by omega)
      subst this; rfl)
    have hI : ((m.length : Int) == 0) = true := beqT (by omega)
    go_enter Tryz.func96, Tryz.ntmps96
    go_wp2_with (with_reducible refine up_ix1 slRats (by omega) (by assumption) ?_)
    go_ret
    exact ⟨rfl, ret_int (by rw [hc.out]; rfl)⟩

set_option maxRecDepth 100000 in
theorem formed_any {R : Mem → Value → Rat → Prop} (X : Nat → Bool) (w : World) (u : Value) (m : List (List Rat)) (hu : SlV (SlV R 3) 1 (mk X w) u m) (hl : m.length ≤ 1099511627776) : Calls Tryz.prog 83 #[u] w (fun e w' => w' = w ∧ e = .returned (.bool (formedB m))) := by
  obtain ⟨ao, ca, rfl, hca, hsa⟩ := hu
  have hha := hsa.hd
  by_cases h96 : 96 < m.length
  · have hv : Hid (false = formedB m) := hid (by
      symm
      cases hf : formedB m
      · rfl
      · have := (formedB_true.1 hf).1; omega)
    have hI : (96 : Int) < (m.length : Int) := by omega
    go_enter Tryz.func83, Tryz.ntmps83
    go_wp2_with fail
    go_ret
    exact ⟨rfl, ret_bool hv.out⟩
  · have hI : ¬ (96 : Int) < (m.length : Int) := by omega
    go_enter Tryz.func83, Tryz.ntmps83
    go_wp2_with fail
    go_loop [10] (fun c => ∃ (i : Nat), c = .int .i64 i ∧ i ≤ m.length ∧ Hid (∀ q, q < i → ∀ hq : q < m.length, 1 ≤ m[q].length ∧ m[q].length ≤ 96 ∧ m[q].length = colsL m)) (fun c => m.length - (intOf c).toNat)
    case atStart => exact ⟨0, rfl, Nat.zero_le _, fun q hq => by omega⟩
    case round =>
      obtain ⟨i, rfl, hi, hok⟩ := hrel
      by_cases hlt : i < m.length
      · have h0 : 0 < m.length := by omega
        obtain ⟨a1, c1, hX1, hc1, hcl1, hq1⟩ := hsa.row i hlt
        obtain ⟨a2, c2, hX2, hc2, hcl2, hq2⟩ := hsa.row 0 h0
        have k00 := hc1.out noY w (ExtX.refl _) rfl
        have k10 := hc2.out noY w (ExtX.refl _) rfl
        have hcol := colsL_pos h0
        have hno := hid (formedB_false i hlt)
        rw [← hcol] at k10
        obtain ⟨x, hx⟩ : ∃ x, m[i].length = x := ⟨_, rfl⟩
        obtain ⟨y, hy⟩ : ∃ y, colsL m = y := ⟨_, rfl⟩
        rw [hx] at k00 hno
        rw [hy] at k10 hno
        have hst : Hid (1 ≤ x ∧ x ≤ 96 ∧ x = y → ∀ hq : i < m.length, 1 ≤ m[i].length ∧ m[i].length ≤ 96 ∧ m[i].length = colsL m) := hid fun h hq => by rw [hx, hy]; exact h
        clear hx hy hcol hc1 hc2 hq1 hq2 hcl1 hcl2
        by_cases hx0 : x = 0
        · have d0 : ((x : Int) == 0) = true := beqT (by omega)
          have hv := hid (hno.out (by omega))
          clear hx0
          go_wp2_with (with_reducible refine up_ix1 slRats (by omega) (by assumption) ?_)
          go_ret
          exact ⟨rfl, ret_bool hv.out⟩
        · have d0 : ((x : Int) == 0) = false := beqF (by omega)
          by_cases hx1 : 96 < x
          · have d1 : (96 : Int) < (x : Int) := by omega
            have hv := hid (hno.out (by omega))
            clear hx0
            go_wp2_with (with_reducible refine up_ix1 slRats (by omega) (by assumption) ?_)
            go_ret
            exact ⟨rfl, ret_bool hv.out⟩
          · have d1 : ¬ (96 : Int) < (x : Int) := by omega
            by_cases hxy : x = y
            · have d2 : ((x : Int) != (y : Int)) = false := bneF (by omega)
              have hst2 := hid (hst.out ⟨by omega, by omega, hxy⟩)
              clear hx0 hxy
              go_wp2_with (with_reducible refine up_ix1 slRats (by omega) (by assumption) ?_)
              go_round
              case rel => exact ⟨i + 1, by go_num, by omega, upto_succ hok.out hst2.out⟩
              case measure => simp [intOf]; omega
            · have d2 : ((x : Int) != (y : Int)) = true := bneT (by omega)
              have hv := hid (hno.out (by omega))
              clear hx0 hxy
              go_wp2_with (with_reducible refine up_ix1 slRats (by omega) (by assumption) ?_)
              go_ret
              exact ⟨rfl, ret_bool hv.out⟩
      · have hv : Hid (true = formedB m) := hid (by
          symm
          exact formedB_true.2 ⟨by omega, fun q hq => hok.out q (by omega) hq⟩)
        go_wp2_with fail
        go_ret
        exact ⟨rfl, ret_bool hv.out⟩
end Go.Proofs.YtjbhcniiioepgaaGreat

namespace Go.Rep
open Go.RowKit Go.Lim
/-- A slice's header: its address, length, capacity. -/
abbrev Hdr := Option Addr × Nat × Nat
def HdR : Mem → Value → Hdr → Prop := fun _ u x => u = .slice x.1 x.2.1 x.2.2
theorem HdR.elem : Elem HdR 1 := ⟨fun _ _ _ _ _ h => h, by rintro h u x rfl; rfl, by
  rintro h u x rfl c hc; simp [cellsL, Value.cells] at hc; subst hc; rfl, Nat.one_pos⟩
theorem HdR.one : OneCell HdR := by rintro h u x rfl; rfl
theorem HdR.pure : ∀ h h' u x, HdR h u x → HdR h' u x := fun _ _ _ _ h => h
/-- What a step that turns other blocks leaves of a list of plain values. -/
theorem OL.frame {α : Type} {R : Mem → Value → α → Prop} {sz : Nat} {X : Nat → Bool} {base : Nat} {e : TypeId} {w w' : World} {ao : Option Addr} {cap : Nat} {l : List α} (hR0 : ∀ h h' u x, R h u x → R h' u x) {Y Z : Nat → Bool} (h : OL R sz X base e w ao cap l) (hE : ExtX Y w w') (hY : ∀ k, ob ao k = true → Y k = false) (hZ : ∀ k, ob ao k = true → Z k = false) : OL R sz Z base e w' ao cap l := by
  have hb := fun k (hk : ob ao k = true) => h.block hk
  obtain ⟨hx, us, h1, h2, h22, h3, h5⟩ := h
  refine ⟨hZ, us, h1, h2, h22, ?_, fun i hi hi' => hR0 _ _ _ _ (h5 i hi hi')⟩
  refine ⟨h3.1, ?_⟩
  rcases h3.2 with h4 | ⟨g, c, cur, hv, h6, h7, h8⟩
  · exact .inl h4
  · refine .inr ⟨g, c, cur, hv, h6, ?_, h8⟩
    simp at hv
    obtain ⟨rfl, rfl⟩ := hv
    have hk : ob (some ⟨g, 0, none⟩) g = true := by simp [ob]
    rw [hE.block g (hb g hk).2 (hY g hk), h7]
/-- A mask without the blocks of one slice. -/
def cut (Z : Nat → Bool) (ao : Option Addr) : Nat → Bool := fun k => Z k && !ob ao k
theorem un_cut {Z : Nat → Bool} {ao : Option Addr} (h : ∀ k, ob ao k = true → Z k = true) : un (cut Z ao) ao = Z := by
  funext k
  have := h k
  unfold un cut
  cases hb : ob ao k <;> cases hz : Z k <;> simp_all
theorem cut_un {Z : Nat → Bool} {ao : Option Addr} (h : ∀ k, ob ao k = true → Z k = false) : cut (un Z ao) ao = Z := by
  funext k
  have := h k
  unfold un cut
  cases hb : ob ao k <;> cases hz : Z k <;> simp_all
theorem cut_of {Z : Nat → Bool} {ao : Option Addr} {k : Nat} (h : cut Z ao k = true) : Z k = true ∧ ob ao k = false := by simpa [cut] using h
theorem cut_mk {Z : Nat → Bool} {ao : Option Addr} {k : Nat} (h : Z k = true) (h2 : ob ao k = false) : cut Z ao k = true := by simp [cut, h, h2]
/-- The blocks of all rows. -/
def obs (hs : List Hdr) : Nat → Bool := fun k => hs.any fun h => ob h.1 k
theorem obs_get {hs : List Hdr} {i : Nat} (hi : i < hs.length) {k : Nat} (h : ob hs[i].1 k = true) : obs hs k = true := by
  unfold obs; rw [List.any_eq_true]; exact ⟨_, List.getElem_mem hi, h⟩
theorem obs_of {hs : List Hdr} {k : Nat} (h : obs hs k = true) : ∃ i, ∃ hi : i < hs.length, ob hs[i].1 k = true := by
  unfold obs at h; rw [List.any_eq_true] at h
  obtain ⟨x, hx, h2⟩ := h
  obtain ⟨i, hi, rfl⟩ := List.getElem_of_mem hx
  exact ⟨i, hi, h2⟩
/-- All blocks of a matrix, and those of X. -/
def mz (X : Nat → Bool) (ao : Option Addr) (hs : List Hdr) : Nat → Bool := fun k => X k || ob ao k || obs hs k
/-- The blocks of a matrix. -/
def mb (ao : Option Addr) (hs : List Hdr) : Nat → Bool := fun k => ob ao k || obs hs k
theorem mz_iff {X : Nat → Bool} {ao : Option Addr} {hs : List Hdr} {k : Nat} : mz X ao hs k = true ↔ X k = true ∨ ob ao k = true ∨ obs hs k = true := by simp [mz, or_assoc]
theorem mb_iff {ao : Option Addr} {hs : List Hdr} {k : Nat} : mb ao hs k = true ↔ ob ao k = true ∨ obs hs k = true := by simp [mb]

/-- The matrix m lies in slices that the call itself made: the outer one holds the rows' headers hs; the numbers are read outside of all of them and of X. -/
structure MO (X : Nat → Bool) (base : Nat) (e1 e2 : TypeId) (w : World) (ao : Option Addr) (cap : Nat) (hs : List Hdr) (m : List (List Rat)) : Prop where
  outer : OL HdR 1 X base e1 w ao cap hs
  len : hs.length = m.length
  rlen : ∀ i (hi : i < hs.length) (hi' : i < m.length), hs[i].2.1 = m[i].length
  row : ∀ i (hi : i < hs.length) (hi' : i < m.length), OL QC 3 (cut (mz X ao hs) hs[i].1) base e2 w hs[i].1 hs[i].2.2 m[i]
  sep : ∀ i (hi : i < hs.length) k, ob hs[i].1 k = true → X k = false ∧ ob ao k = false
  dis : ∀ i j (hi : i < hs.length) (hj : j < hs.length), i ≠ j → ∀ k, ob hs[i].1 k = true → ob hs[j].1 k = false

section
variable {X : Nat → Bool} {base : Nat} {e1 e2 : TypeId} {w w' : World} {ao : Option Addr} {cap : Nat} {hs : List Hdr} {m : List (List Rat)}
theorem MO.out_sep (h : MO X base e1 e2 w ao cap hs m) {k : Nat} (hk : ob ao k = true) : X k = false ∧ obs hs k = false := by
  refine ⟨h.outer.1 k hk, ?_⟩
  cases ho : obs hs k
  · rfl
  · obtain ⟨i, hi, h2⟩ := obs_of ho
    have := (h.sep i hi k h2).2
    rw [hk] at this; simp at this
theorem MO.obs_sep (h : MO X base e1 e2 w ao cap hs m) {k : Nat} (hk : obs hs k = true) : X k = false ∧ ob ao k = false := by
  obtain ⟨i, hi, h2⟩ := obs_of hk
  exact h.sep i hi k h2
theorem MO.mb_X (h : MO X base e1 e2 w ao cap hs m) {k : Nat} (hk : mb ao hs k = true) : X k = false := by
  rcases mb_iff.1 hk with a | a
  · exact (h.out_sep a).1
  · exact (h.obs_sep a).1
theorem MO.mb_block (h : MO X base e1 e2 w ao cap hs m) {k : Nat} (hk : mb ao hs k = true) : base ≤ k ∧ k < w.heap.size := by
  rcases mb_iff.1 hk with a | a
  · exact h.outer.block a
  · obtain ⟨i, hi, h2⟩ := obs_of a
    exact (h.row i hi (by have := h.len; omega)).block h2
theorem MO.mz_sub (_h : MO X base e1 e2 w ao cap hs m) {i : Nat} (hi : i < hs.length) (k : Nat) (hk : ob hs[i].1 k = true) : mz X ao hs k = true := mz_iff.2 (.inr (.inr (obs_get hi hk)))
theorem MO.hz (h : MO X base e1 e2 w ao cap hs m) (hX : HX X w) : HX (mz X ao hs) w := fun k hk => by
  rcases mz_iff.1 hk with a | a
  · exact hX k a
  · exact (h.mb_block (mb_iff.2 a)).2
/-- A step that turns only what X hides, or new blocks. -/
theorem MO.ext (h : MO X base e1 e2 w ao cap hs m) {Y X' : Nat → Bool} (hE : ExtX Y w w') (hY : ∀ k, k < w.heap.size → Y k = true → X k = true) (hZ : ∀ k, k < w.heap.size → X' k = true → X k = true) : MO X' base e1 e2 w' ao cap hs m := by
  have hX' : ∀ k, mb ao hs k = true → X' k = false := fun k hk => by
    cases hh : X' k
    · rfl
    · have := hZ k (h.mb_block hk).2 hh; rw [h.mb_X hk] at this; simp at this
  have hYm : ∀ k, mb ao hs k = true → Y k = false := fun k hk => by
    cases hh : Y k
    · rfl
    · have := hY k (h.mb_block hk).2 hh; rw [h.mb_X hk] at this; simp at this
  refine ⟨h.outer.ext HdR.elem hE hY hZ, h.len, h.rlen, fun i hi hi' => ?_, fun i hi k hk => ⟨hX' k (mb_iff.2 (.inr (obs_get hi hk))), (h.sep i hi k hk).2⟩, h.dis⟩
  refine (h.row i hi hi').ext QC.elem hE (fun k hk hy => cut_mk (mz_iff.2 (.inl (hY k hk hy))) ?_) (fun k hk hy => ?_)
  · cases hb : ob hs[i].1 k
    · rfl
    · have := hYm k (mb_iff.2 (.inr (obs_get hi hb))); rw [hy] at this; simp at this
  · obtain ⟨h1, h2⟩ := cut_of hy
    refine cut_mk (mz_iff.2 ?_) h2
    rcases mz_iff.1 h1 with a | a
    · exact .inl (hZ k hk a)
    · exact .inr a
theorem MO.ext0 (h : MO X base e1 e2 w ao cap hs m) (hE : Ext w w') : MO X base e1 e2 w' ao cap hs m :=
  h.ext hE (fun k _ hk => by simp [noY] at hk) (fun _ _ h => h)
/-- One row was written. -/
theorem MO.upd (h : MO X base e1 e2 w ao cap hs m) {i : Nat} (hi : i < hs.length) {l : List Rat} (hE : ExtX (ob hs[i].1) w w') (hl : ∀ hi' : i < m.length, l.length = m[i].length) (hr : OL QC 3 (cut (mz X ao hs) hs[i].1) base e2 w' hs[i].1 hs[i].2.2 l) : MO X base e1 e2 w' ao cap hs (m.set i l) := by
  refine ⟨h.outer.frame HdR.pure hE (fun k hk => ?_) h.outer.1, by rw [List.length_set]; exact h.len, fun j hj hj' => ?_, fun j hj hj' => ?_, h.sep, h.dis⟩
  · cases hb : ob hs[i].1 k
    · rfl
    · have := (h.sep i hi k hb).2; rw [hk] at this; simp at this
  · rw [List.getElem_set]
    split
    · subst_vars; rw [hl (by have := h.len; omega)]; exact h.rlen _ hj (by have := h.len; omega)
    · exact h.rlen j hj (by simpa using hj')
  · rw [List.getElem_set]
    split
    · subst_vars; exact hr
    · rename_i e
      exact (h.row j hj (by simpa using hj')).ext QC.elem hE (fun k _ hk => cut_mk (h.mz_sub hi k hk) (h.dis i j hi hj e k hk)) (fun _ _ hk => hk)
/-- The rows were exchanged. -/
theorem MO.perm (h : MO X base e1 e2 w ao cap hs m) {hs' : List Hdr} {m' : List (List Rat)} (f : Nat → Nat) (hf : ∀ i, i < hs.length → f i < hs.length) (hinj : ∀ i j, i < hs.length → j < hs.length → f i = f j → i = j) (hsurj : ∀ i, i < hs.length → ∃ j, j < hs.length ∧ f j = i)
    (hl : hs'.length = hs.length) (hlm : m'.length = m.length) (hh : ∀ i (hi : i < hs'.length) (hi' : f i < hs.length), hs'[i] = hs[f i]) (hm : ∀ i (hi : i < m'.length) (hi' : f i < m.length), m'[i] = m[f i])
    (hE : ExtX (ob ao) w w') (ho : OL HdR 1 X base e1 w' ao cap hs') : MO X base e1 e2 w' ao cap hs' m' := by
  have hlen := h.len
  have hobs : ∀ k, obs hs' k = true ↔ obs hs k = true := fun k => by
    constructor
    · intro hk
      obtain ⟨i, hi, h2⟩ := obs_of hk
      have hfi := hf i (by omega)
      rw [hh i hi hfi] at h2
      exact obs_get hfi h2
    · intro hk
      obtain ⟨i, hi, h2⟩ := obs_of hk
      obtain ⟨j, hj, rfl⟩ := hsurj i hi
      refine obs_get (i := j) (by omega) ?_
      rw [hh j (by omega) hi]; exact h2
  have hz : mz X ao hs' = mz X ao hs := by
    funext k
    rw [Bool.eq_iff_iff, mz_iff, mz_iff, hobs]
  refine ⟨ho, by omega, fun i hi hi' => ?_, fun i hi hi' => ?_, fun i hi k hk => ?_, fun i j hi hj hij k hk => ?_⟩
  · have hfi := hf i (by omega)
    rw [hh i hi hfi, hm i hi' (by omega)]; exact h.rlen _ hfi (by omega)
  · have hfi := hf i (by omega)
    rw [hz, hh i hi hfi, hm i hi' (by omega)]
    exact (h.row _ hfi (by omega)).ext QC.elem hE (fun k _ hk => cut_mk (mz_iff.2 (.inr (.inl hk))) (by
      cases hb : ob hs[f i].1 k
      · rfl
      · have := (h.sep _ hfi k hb).2; rw [hk] at this; simp at this)) (fun _ _ hk => hk)
  · have hfi := hf i (by omega)
    rw [hh i hi hfi] at hk; exact h.sep _ hfi k hk
  · have hfi := hf i (by omega)
    have hfj := hf j (by omega)
    rw [hh i hi hfi] at hk
    rw [hh j hj hfj]
    exact h.dis _ _ hfi hfj (fun e => hij (hinj i j (by omega) (by omega) e)) k hk
/-- A row is laid where there was none. -/
theorem MO.put (h : MO X base e1 e2 w ao cap hs m) {i : Nat} (hi : i < hs.length) (hn : hs[i].1 = none) {a : Option Addr} {c : Nat} {l : List Rat} {w1 : World} 
    (hE1 : Ext w w1) (hnew : ∀ k, ob a k = true → w.heap.size ≤ k) (hr : OL QC 3 (mz X ao hs) base e2 w1 a c l) (hX : HX X w)
    (hE : ExtX (ob ao) w1 w') (ho : OL HdR 1 X base e1 w' ao cap (hs.set i (a, l.length, c))) : MO X base e1 e2 w' ao cap (hs.set i (a, l.length, c)) (m.set i l) := by
  have hlen := h.len
  have hE' : ExtX (ob ao) w w' := (ExtX.of hE1).trans hE
  have hobs : ∀ k, obs (hs.set i (a, l.length, c)) k = true ↔ obs hs k = true ∨ ob a k = true := fun k => by
    constructor
    · intro hk
      obtain ⟨j, hj, h2⟩ := obs_of hk
      rw [List.getElem_set] at h2
      split at h2
      · exact .inr h2
      · exact .inl (obs_get (by simpa using hj) h2)
    · rintro (hk | hk)
      · obtain ⟨j, hj, h2⟩ := obs_of hk
        refine obs_get (i := j) (by simpa using hj) ?_
        rw [List.getElem_set]
        split
        · subst_vars; rw [hn] at h2; simp [ob] at h2
        · exact h2
      · refine obs_get (i := i) (by simpa using hi) ?_
        rw [List.getElem_set]; simpa using hk
  have hmz : ∀ k, mz X ao (hs.set i (a, l.length, c)) k = true ↔ mz X ao hs k = true ∨ ob a k = true := fun k => by
    rw [mz_iff, mz_iff, hobs]
    constructor
    · rintro (h | h | h | h)
      · exact .inl (.inl h)
      · exact .inl (.inr (.inl h))
      · exact .inl (.inr (.inr h))
      · exact .inr h
    · rintro ((h | h | h) | h)
      · exact .inl h
      · exact .inr (.inl h)
      · exact .inr (.inr (.inl h))
      · exact .inr (.inr (.inr h))
  have hold : ∀ k, mb ao hs k = true → ob a k = false := fun k hk => by
    cases hb : ob a k
    · rfl
    · have := hnew k hb; have := (h.mb_block hk).2; omega
  have hobao : ∀ k, ob a k = true → ob ao k = false := fun k hk => by
    cases hb : ob ao k
    · rfl
    · have := hold k (mb_iff.2 (.inl hb)); rw [hk] at this; simp at this
  refine ⟨ho, by simp [hlen], fun j hj hj' => ?_, fun j hj hj' => ?_, fun j hj k hk => ?_, fun j q hj hq hjq k hk => ?_⟩
  · rw [List.getElem_set, List.getElem_set]
    split
    · rfl
    · exact h.rlen j (by simpa using hj) (by simpa using hj')
  · have hj0 : j < hs.length := by simpa using hj
    have hj1 : j < m.length := by simpa using hj'
    by_cases e : i = j
    · subst e
      simp only [List.getElem_set_self]
      refine hr.ext QC.elem hE (fun k _ hk => mz_iff.2 (.inr (.inl hk))) (fun k hk hz => ?_)
      obtain ⟨h1, h2⟩ := cut_of hz
      rcases (hmz k).1 h1 with h3 | h3
      · exact h3
      · rw [h2] at h3; simp at h3
    · simp only [List.getElem_set_ne e]
      refine (h.row j hj0 hj1).ext QC.elem hE' (fun k _ hk => cut_mk (mz_iff.2 (.inr (.inl hk))) ?_) (fun k hk hz => ?_)
      · cases hb : ob hs[j].1 k
        · rfl
        · have := (h.sep j hj0 k hb).2; rw [hk] at this; simp at this
      · obtain ⟨h1, h2⟩ := cut_of hz
        rcases (hmz k).1 h1 with h3 | h3
        · exact cut_mk h3 h2
        · have := hnew k h3; omega
  · rw [List.getElem_set] at hk
    split at hk
    · exact ⟨by
        cases hb : X k
        · rfl
        · have := hX k hb; have := hnew k hk; omega, hobao k hk⟩
    · exact h.sep j (by simpa using hj) k hk
  · have hj0 : j < hs.length := by simpa using hj
    have hq0 : q < hs.length := by simpa using hq
    rw [List.getElem_set] at hk ⊢
    split at hk
    · rw [if_neg (by omega)]
      cases hb : ob hs[q].1 k
      · rfl
      · have := hold k (mb_iff.2 (.inr (obs_get hq0 hb))); dsimp only at hk; rw [hk] at this; simp at this
    · split
      · exact hold k (mb_iff.2 (.inr (obs_get hj0 hk)))
      · exact h.dis j q hj0 hq0 hjq k hk
/-- The header of a row. -/
theorem MO.hdr (h : MO X base e1 e2 w ao cap hs m) (i : Nat) (hi : i < hs.length) : w.cell? (adr ao i) = some (.slice hs[i].1 hs[i].2.1 hs[i].2.2) ∧ w.frozen? (adr ao i) = false := by
  obtain ⟨u, h1, h2, rfl⟩ := h.outer.cell HdR.one i hi
  exact ⟨h1, h2⟩
/-- A row, read. -/
theorem MO.rowS (h : MO X base e1 e2 w ao cap hs m) {i : Nat} (hi : i < hs.length) (hi' : i < m.length) : Sl QC 3 (_root_.Go.Rep.mk (cut (mz X ao hs) hs[i].1) w) hs[i].1 m[i] := (h.row i hi hi').sl QC.elem
theorem MO.rowX (h : MO X base e1 e2 w ao cap hs m) {i : Nat} (hi : i < hs.length) (hi' : i < m.length) : Sl QC 3 (_root_.Go.Rep.mk X w) hs[i].1 m[i] := (h.rowS hi hi').mono QC.mono (mk_sub fun k _ hk => cut_mk (mz_iff.2 (.inl hk)) (by
  cases hb : ob hs[i].1 k
  · rfl
  · have := (h.sep i hi k hb).1; rw [hk] at this; simp at this))
theorem MO.capLen (h : MO X base e1 e2 w ao cap hs m) : m.length ≤ cap := by rw [← h.len]; exact h.outer.lenCap
/-- The matrix, read. -/
theorem MO.mc (h : MO X base e1 e2 w ao cap hs m) : MC (_root_.Go.Rep.mk X w) (.slice ao m.length cap) m := by
  have hl := h.len
  refine ⟨ao, cap, rfl, h.capLen, fun hp => ?_, fun i hi => ?_⟩
  · have := h.outer.hd; rw [hl] at this; exact this hp
  · obtain ⟨h1, _⟩ := h.hdr i (by omega)
    have hr := h.rowX (i := i) (by omega) hi
    refine ⟨.slice hs[i].1 hs[i].2.1 hs[i].2.2, rfl, fun j hj => ?_, ?_⟩
    · have hj0 : j = 0 := by simp [Value.cells] at hj; omega
      subst hj0
      unfold _root_.Go.Rep.mk
      have hX : X (adr ao (i * 1 + 0)).block = false := by
        obtain ⟨b, off, rfl⟩ := h.outer.hd (by omega)
        exact h.outer.1 _ (by simp [ob, adr])
      rw [hX]
      simpa [Value.cells] using h1
    · rw [h.rlen i (by omega) hi]
      exact ⟨_, _, rfl, by have := (h.row i (by omega) hi).lenCap; exact this, hr⟩
/-- A matrix without rows yet. -/
theorem MO.start {n : Nat} (ho : OL HdR 1 X base e1 w ao cap (List.replicate n (none, 0, 0))) (e2 : TypeId) : MO X base e1 e2 w ao cap (List.replicate n (none, 0, 0)) (List.replicate n []) := by
  refine ⟨ho, by simp, fun i hi hi' => by simp, fun i hi hi' => ?_, fun i hi k hk => ?_, fun i j hi hj hij k hk => ?_⟩
  · simp only [List.getElem_replicate]; exact OL.nil _ _ _ _ _ _
  · simp [ob] at hk
  · simp [ob] at hk
end
end Go.Rep

namespace Go.Rep
open Go.RowKit Go.Lim
section
variable {P : Program} {α : Type} {R : Mem → Value → α → Prop} {X : Nat → Bool} {base : Nat} {e : TypeId} {w : World} {ao : Option Addr} {cap : Nat} {l : List α}
/-- The three cells of an element of an owned list. -/
theorem OL.cell3 (h : OL R 3 X base e w ao cap l) (i : Nat) (hi : i < l.length) {g o : Nat} (hg : adr ao (i * 3) = ⟨g, o, none⟩) :
    ∃ u v0 v1 v2, cellsL u = [v0, v1, v2] ∧ (w.cell? ⟨g, o, none⟩ = some v0 ∧ w.frozen? ⟨g, o, none⟩ = false) ∧ (w.cell? ⟨g, o + 1, none⟩ = some v1 ∧ w.frozen? ⟨g, o + 1, none⟩ = false) ∧ (w.cell? ⟨g, o + 2, none⟩ = some v2 ∧ w.frozen? ⟨g, o + 2, none⟩ = false) ∧ R (mk (un X ao) w) u l[i] := by
  obtain ⟨us, h1, h2, _, h3, h5⟩ := h.cells
  have hi' : i < us.length := by omega
  have hsz : us[i].cells.size = 3 := h2 _ (List.getElem_mem _)
  have hlen : (cellsL us[i]).length = 3 := by simp [cellsL, hsz]
  obtain ⟨v0, v1, v2, hv⟩ : ∃ v0 v1 v2, cellsL us[i] = [v0, v1, v2] := by
    match hc : cellsL us[i], hlen with
    | [a, b, c], _ => exact ⟨a, b, c, rfl⟩
  have ha : ∀ j, adr ao (i * 3 + j) = ⟨g, o + j, none⟩ := fun j => by rw [← adr_add, hg, Addr.add_lit]
  have key : ∀ j v, j < 3 → (cellsL us[i])[j]? = some v → w.cell? ⟨g, o + j, none⟩ = some v ∧ w.frozen? ⟨g, o + j, none⟩ = false := fun j v hj hjv => by
    have hget := flat_get us i j hi' h2 hj
    rw [hjv] at hget
    have := h3 _ _ hget
    rwa [ha] at this
  exact ⟨us[i], v0, v1, v2, hv, key 0 v0 (by omega) (by rw [hv]; rfl), key 1 v1 (by omega) (by rw [hv]; rfl), key 2 v2 (by omega) (by rw [hv]; rfl), h5 i hi' hi⟩
theorem run_store1 {P : Program} {w : World} {a : Addr} {u v : Value} (h1 : v.oneCell' = true) (hc : w.cell? a = some u) (hf : w.frozen? a = false) : (store a v).run P w = .ok () (w.setCell a v) := by
  rw [run_store P w a v _ h1, hc]; simp [hf]
/-- A store of a three-cell element, as the walk writes it. -/
theorem OL.set3 {t : TypeId} (hT : TyI P t 3) (hR : Elem R 3) (h : OL R 3 X base e w ao cap l) (i : Nat) (hi : i < l.length) {g o : Nat} (hg : adr ao (i * 3) = ⟨g, o, none⟩) {v0 v1 v2 : Value} {x : α} (hu : R (mk (un X ao) w) (.agg #[v0, v1, v2]) x) :
    OL R 3 X base e (((w.setCell ⟨g, o, none⟩ v0).setCell ⟨g, o + 1, none⟩ v1).setCell ⟨g, o + 2, none⟩ v2) ao cap (l.set i x) ∧ ExtX (ob ao) w (((w.setCell ⟨g, o, none⟩ v0).setCell ⟨g, o + 1, none⟩ v1).setCell ⟨g, o + 2, none⟩ v2) := by
  obtain ⟨ti, ht, hts⟩ := hT
  obtain ⟨_, c0, c1, c2, _, ⟨h0, f0⟩, ⟨h1, f1⟩, ⟨h2, f2⟩, _⟩ := h.cell3 i hi hg
  obtain ⟨w', hr, h3, h4⟩ := h.run_store (P := P) ht hts hR i hi _ x hu
  have hone := hR.one _ _ _ hu
  rw [hg] at hr
  have o0 : v0.oneCell' = true := hone v0 (by simp [cellsL, Value.cells])
  have o1 : v1.oneCell' = true := hone v1 (by simp [cellsL, Value.cells])
  have o2 : v2.oneCell' = true := hone v2 (by simp [cellsL, Value.cells])
  have a1 : (w.setCell ⟨g, o, none⟩ v0).cell? ⟨g, o + 1, none⟩ = some c1 := by rw [World.cell?_setCell_other (h := by simp)]; exact h1
  have a2 : ((w.setCell ⟨g, o, none⟩ v0).setCell ⟨g, o + 1, none⟩ v1).cell? ⟨g, o + 2, none⟩ = some c2 := by rw [World.cell?_setCell_other (h := by simp), World.cell?_setCell_other (h := by simp)]; exact h2
  have b1 : (w.setCell ⟨g, o, none⟩ v0).frozen? ⟨g, o + 1, none⟩ = false := by rw [World.frozen?_setCell]; exact f1
  have b2 : ((w.setCell ⟨g, o, none⟩ v0).setCell ⟨g, o + 1, none⟩ v1).frozen? ⟨g, o + 2, none⟩ = false := by rw [World.frozen?_setCell, World.frozen?_setCell]; exact f2
  have hw : w' = ((w.setCell ⟨g, o, none⟩ v0).setCell ⟨g, o + 1, none⟩ v1).setCell ⟨g, o + 2, none⟩ v2 := by
    have s0 := run_store1 (P := P) o0 h0 f0
    have s1 := run_store1 (P := P) o1 a1 b1
    have s2 := run_store1 (P := P) o2 a2 b2
    simp [storeVar, sizeOf, typeInfo, ht, hts, Value.cells, storeCells, Addr.add_lit, s0, s1, s2] at hr
    exact hr.symm
  subst hw
  exact ⟨h3, h4⟩
end
section
variable {X : Nat → Bool} {base : Nat} {e1 e2 : TypeId} {w w' : World} {ao : Option Addr} {cap : Nat} {hs : List Hdr} {m : List (List Rat)}
/-- A reading from before the matrix was made. -/
theorem MO.old {α : Type} {R : Mem → Value → α → Prop} (hR : Mono R) {u : Value} {x : α} {X0 : Nat → Bool} {w0 : World} (h : MO X base e1 e2 w ao cap hs m) (hu : R (_root_.Go.Rep.mk X0 w0) u x) (hE : Ext w0 w) (hb : w0.heap.size ≤ base) (hX : ∀ k, k < w0.heap.size → X k = true → X0 k = true) : R (_root_.Go.Rep.mk (mz X ao hs) w) u x :=
  hR _ _ _ _ (mk_over hE (fun k _ hk => by simp [noY] at hk) fun k hk hz => by
    rcases mz_iff.1 hz with a | a
    · exact hX k hk a
    · have := (h.mb_block (mb_iff.2 a)).1; omega) hu
/-- What the whole mask leaves is read outside of X, too. -/
theorem MO.less {α : Type} {R : Mem → Value → α → Prop} (hR : Mono R) {u : Value} {x : α} (_h : MO X base e1 e2 w ao cap hs m) (hu : R (_root_.Go.Rep.mk (mz X ao hs) w) u x) : R (_root_.Go.Rep.mk X w) u x :=
  hR _ _ _ _ (mk_sub fun k _ hk => mz_iff.2 (.inl hk)) hu
/-- From a world in which the matrix was not there. -/
theorem MO.ext_from {w0 : World} (h : MO X base e1 e2 w ao cap hs m) (hE : Ext w0 w) (hb : w0.heap.size ≤ base) (hE2 : ExtX (mb ao hs) w w') : Ext w0 w' :=
  hE.then_ hE2 fun i hi _ => by
    cases hk : mb ao hs i
    · rfl
    · have := (h.mb_block hk).1; omega
theorem ob_mb {ao : Option Addr} {hs : List Hdr} {k : Nat} (h : mb ao hs k = false) : ob ao k = false ∧ ∀ i (hi : i < hs.length), ob hs[i].1 k = false := by
  refine ⟨?_, fun i hi => ?_⟩
  · cases hb : ob ao k
    · rfl
    · rw [mb_iff.2 (.inl hb)] at h; simp at h
  · cases hb : ob hs[i].1 k
    · rfl
    · rw [mb_iff.2 (.inr (obs_get hi hb))] at h; simp at h
theorem ExtX.row {i : Nat} (hi : i < hs.length) (h : ExtX (ob hs[i].1) w w') : ExtX (mb ao hs) w w' := h.weaken fun _ _ hk => (ob_mb hk).2 i hi
theorem ExtX.outer (h : ExtX (ob ao) w w') : ExtX (mb ao hs) w w' := h.weaken fun _ _ hk => (ob_mb hk).1
/-- The rows' headers hidden alike. -/
theorem obs_congr {hs hs' : List Hdr} (h : ∀ k, obs hs k = obs hs' k) : mb ao hs = mb ao hs' ∧ mz X ao hs = mz X ao hs' := by
  constructor <;> (funext k; simp [mb, mz, h])
/-- A matrix that a call has made comes back. -/
def MOut (X : Nat → Bool) (e1 e2 : TypeId) (w : World) (m : List (List Rat)) (e : Ending) (w' : World) : Prop := Ext w w' ∧ ∃ ao cap hs, e = .returned (.slice ao m.length cap) ∧ MO X w.heap.size e1 e2 w' ao cap hs m
end
end Go.Rep

namespace Go.Proofs.YtjbhcniiioepgaaGreat
open Go.RowKit Go.Rep Go.Lim Go.Lin

theorem part_set {α : Type} (r i : Nat) (z : α) (x : α) (hi : i < r) : ((List.range r).map fun q => if q < i then z else x).set i z = (List.range r).map fun q => if q < i + 1 then z else x := by
  refine List.ext_getElem (by simp) fun q h1 h2 => ?_
  simp at h1
  rw [List.getElem_set]
  simp only [List.getElem_map, List.getElem_range]
  split
  · subst_vars; simp
  · by_cases a : q < i
    · simp [a, show q < i + 1 by omega]
    · simp [a, show ¬ q < i + 1 by omega]
theorem part_zero {α : Type} (r : Nat) (z x : α) : ((List.range r).map fun q => if q < 0 then z else x) = List.replicate r x := by
  refine List.ext_getElem (by simp) fun q h1 h2 => by simp
theorem part_full {α : Type} (r : Nat) (z x : α) : ((List.range r).map fun q => if q < r then z else x) = List.replicate r z := by
  refine List.ext_getElem (by simp) fun q h1 h2 => ?_
  simp at h1
  simp [h1]

set_option maxRecDepth 100000 in
theorem zero_any (X : Nat → Bool) (w : World) (r c : Nat) (hX : HX X w) (hr : r ≤ 1000) (hc : c ≤ 1000) : Calls Tryz.prog 101 #[.int .i64 (r : Int), .int .i64 (c : Int)] w (MOut X 33 31 w (List.replicate r (List.replicate c 0))) := by
  go_enter Tryz.func101, Tryz.ntmps101
  go_wp2_with ((with_reducible show wpList _ _ _ (⟨_, .makeSlice _ _ _, _, _, _, _⟩ :: _) _ _); refine st_make (R := HdR) slRats HdR.elem (none, 0, 0) (fun _ => rfl) X hX w.heap.size (Nat.le_refl _) r rfl rfl rfl (by omega) (by omega) ?_; intro ao w1 hO1 hE1)
  have hM1 := MO.start hO1 31
  have hh := hO1.hd
  simp only [List.length_replicate] at hh
  have h0 : List.replicate r ([] : List Rat) = (List.range r).map fun q => if q < 0 then List.replicate c 0 else [] := (part_zero r _ _).symm
  rw [h0] at hM1
  clear hO1 h0
  go_loopw [11] (fun k wr => ∃ (i : Nat) (hs : List Hdr), k = .int .i64 i ∧ i ≤ r ∧ Hid (∀ q (hq : q < hs.length), i ≤ q → hs[q].1 = none) ∧ MO X w.heap.size 33 31 wr ao r hs ((List.range r).map fun q => if q < i then List.replicate c 0 else []) ∧ Ext w wr) (fun k _ => r - (intOf k).toNat)
  case atStart => exact ⟨0, _, rfl, Nat.zero_le _, hid (fun q hq _ => by simp), hM1, hE1⟩
  case round =>
    obtain ⟨i, hs, rfl, hi, hnil, hM, hE⟩ := hrel
    have hXr : HX X wr := hX.ext hE
    have hXz := hM.hz hXr
    have hlen := hid hM.len
    have hml : Hid (((List.range r).map fun q => if q < i then List.replicate c (0 : Rat) else []).length = r) := hid (by simp)
    by_cases hlt : i < r
    · have hih : i < hs.length := by rw [hlen.out, hml.out]; exact hlt
      have hps := hid (part_set r i (List.replicate c (0 : Rat)) [] hlt)
      have hn := hnil.out i hih (Nat.le_refl _)
      go_wp2_with (first | (with_reducible refine up_ix1 slRats (by omega) (by assumption) ?_) | ((with_reducible show wpList _ _ _ (⟨_, .makeSlice _ _ _, _, _, _, _⟩ :: _) _ _); refine st_make (R := QC) slRat QC.elem (0 : Rat) (fun _ => QC.zero _) (mz X ao hs) hXz wr.heap.size (Nat.le_refl _) c rfl rfl rfl (by omega) (by omega) ?_; intro a1 w2 hO2 hE2) | ((with_reducible show wpList _ _ _ (⟨_, .store _ _ _, _, _, _, _⟩ :: _) _ _); refine st_store tyRats HdR.elem i rfl (by simp) (hM.outer.ext0 HdR.elem hE2) hih (.slice a1 c c) (a1, c, c) rfl rfl ?_; intro w3 hO3 hE3))
      have hM3 := hM.put (l := List.replicate c 0) hih hn hE2 (fun k hk => (hO2.block hk).1) (hO2.base_le hE.size) hXr hE3 (by simpa using hO3)
      rw [hps.out] at hM3
      have hE4 : Ext w w3 := (hE.trans hE2).then_ hE3 fun k hk _ => by
        cases hb : ob ao k
        · rfl
        · have := (hM.outer.block hb).1; omega
      have hnil2 : Hid (∀ q (hq : q < (hs.set i (a1, (List.replicate c (0 : Rat)).length, c)).length), i + 1 ≤ q → (hs.set i (a1, (List.replicate c (0 : Rat)).length, c))[q].1 = none) := hid fun q hq hiq => by
        rw [List.getElem_set_ne (by omega)]; exact hnil.out q (by simpa using hq) (by omega)
      go_roundw
      case rel => exact ⟨i + 1, _, by go_num, by omega, hnil2, hM3, hE4⟩
      case measure => simp [intOf]; omega
    · have hir : i = r := by omega
      subst hir
      rw [part_full] at hM
      go_wp2_with fail
      go_ret
      exact ⟨hE, ao, i, hs, by simp, hM⟩
end Go.Proofs.YtjbhcniiioepgaaGreat
