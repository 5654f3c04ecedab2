/- Elimination over lists of rows: what the two programs compute is the reduced form. Conditions: none. How large the numbers of an elimination grow. Conditions: none. Determinants of at most four rows: row operations, products, the transposed matrix, triangles. Conditions: none. -/
import Derived.Test.YtjbhcniiioepgaaGreatSoN
namespace Go.Lin
abbrev Mat := List (List Rat)
def ent (m : Mat) : F2 := fun i j => (m.getD i []).getD j 0
def Shp (n c : Nat) (m : Mat) : Prop := m.length = n ∧ ∀ r ∈ m, r.length = c
theorem Shp.row {n c : Nat} {m : Mat} (h : Shp n c m) {i : Nat} (hi : i < n) : (m.getD i []).length = c := by
  have : i < m.length := by rw [h.1]; exact hi
  simp [List.getD_eq_getElem?_getD, this, h.2]
theorem ent_out {n c : Nat} {m : Mat} (h : Shp n c m) {i j : Nat} (hij : n ≤ i ∨ c ≤ j) : ent m i j = 0 := by
  unfold ent
  by_cases hi : i < n
  · have := h.row hi
    rw [List.getD_eq_getElem?_getD, List.getElem?_eq_none (by omega)]; rfl
  · have := h.1
    rw [List.getD_eq_getElem?_getD (l := m), List.getElem?_eq_none (by omega)]; simp
theorem Shp.ext {n c : Nat} {m m' : Mat} (h : Shp n c m) (h' : Shp n c m') (he : Eqm n c (ent m) (ent m')) : m = m' := by
  refine List.ext_getElem (h.1.trans h'.1.symm) fun i h1 h2 => ?_
  have hl1 := h.2 _ (List.getElem_mem h1)
  have hl2 := h'.2 _ (List.getElem_mem h2)
  refine List.ext_getElem (hl1.trans hl2.symm) fun j h3 h4 => ?_
  have := he i (by rw [← h.1]; exact h1) j (by omega)
  simpa [ent, List.getD_eq_getElem?_getD, h1, h2, h3, h4] using this
theorem Shp.set {n c : Nat} {m : Mat} (h : Shp n c m) (i : Nat) {r : List Rat} (hr : r.length = c) : Shp n c (m.set i r) := by
  refine ⟨by simp [h.1], fun x hx => ?_⟩
  rcases List.mem_or_eq_of_mem_set hx with a | a
  · exact h.2 _ a
  · rw [a]; exact hr
theorem ent_set {m : Mat} {i : Nat} {r : List Rat} (hi : i < m.length) (k j : Nat) : ent (m.set i r) k j = if k = i then r.getD j 0 else ent m k j := by
  unfold ent
  simp only [List.getD_eq_getElem?_getD, List.getElem?_set]
  by_cases e : k = i
  · subst e; simp [hi]
  · simp [e, Ne.symm e]
/-- Each row by its number. -/
def rows (m : Mat) (f : Nat → List Rat → List Rat) : Mat := m.mapIdx f
theorem Shp.rows {n c : Nat} {m : Mat} (h : Shp n c m) {f : Nat → List Rat → List Rat} (hf : ∀ i, i < n → ∀ r : List Rat, r.length = c → (f i r).length = c) : Shp n c (rows m f) := by
  refine ⟨by simp [Lin.rows, h.1], fun x hx => ?_⟩
  obtain ⟨i, hi, rfl⟩ := List.getElem_of_mem hx
  simp only [Lin.rows, List.length_mapIdx, List.getElem_mapIdx] at hi ⊢
  exact hf i (by rw [← h.1]; exact hi) _ (h.2 _ (List.getElem_mem _))
theorem ent_rows {m : Mat} {f : Nat → List Rat → List Rat} {i : Nat} (hi : i < m.length) (j : Nat) : ent (rows m f) i j = (f i (m.getD i [])).getD j 0 := by
  simp [ent, rows, List.getD_eq_getElem?_getD, hi]

def swapL (m : Mat) (i k : Nat) : Mat := (m.set i (m.getD k [])).set k (m.getD i [])
theorem Shp.swap {n c : Nat} {m : Mat} (h : Shp n c m) {i k : Nat} (hi : i < n) (hk : k < n) : Shp n c (swapL m i k) := (h.set i (h.row hk)).set k (h.row hi)
theorem ent_swap {n c : Nat} {m : Mat} (h : Shp n c m) {i k : Nat} (hi : i < n) (hk : k < n) (r j : Nat) : ent (swapL m i k) r j = if r = k then ent m i j else if r = i then ent m k j else ent m r j := by
  unfold swapL
  rw [ent_set (by simp [h.1, hk]), ent_set (by simp [h.1, hi])]; rfl
theorem swapL_self (m : Mat) (i : Nat) (hi : i < m.length) : swapL m i i = m := by
  unfold swapL
  simp [List.getD_eq_getElem?_getD, hi]
theorem re_swap {n c : Nat} {m : Mat} (h : Shp n c m) {i k : Nat} (hi : i < n) (hk : k < n) (hik : i ≠ k) : RE n c (ent m) (ent (swapL m i k)) (-1) :=
  .swap i k hi hk hik (fun j _ => by rw [ent_swap h hi hk]; simp [hik]) (fun j _ => by rw [ent_swap h hi hk]; simp) (fun r _ a b j _ => by rw [ent_swap h hi hk]; simp [a, b])

/-- A multiple of a row taken from another one so that a column becomes 0. -/
def elimL (row piv : List Rat) (col : Nat) : List Rat := List.zipWith (fun a x => a - (row.getD col 0 / piv.getD col 0) * x) row piv
theorem elimL_len (row piv : List Rat) (col : Nat) (h : row.length = piv.length) : (elimL row piv col).length = piv.length := by simp [elimL, h]
theorem elimL_get (row piv : List Rat) (col j : Nat) (h : row.length = piv.length) : (elimL row piv col).getD j 0 = row.getD j 0 - (row.getD col 0 / piv.getD col 0) * piv.getD j 0 := by
  unfold elimL
  simp only [List.getD_eq_getElem?_getD, List.getElem?_zipWith]
  by_cases hj : j < row.length
  · simp [hj, show j < piv.length by omega]
  · simp [show ¬ j < row.length by omega, show ¬ j < piv.length by omega]; grind
theorem elimL_zero (row piv : List Rat) (col : Nat) (h : row.length = piv.length) (h0 : row.getD col 0 / piv.getD col 0 = 0) : elimL row piv col = row := by
  refine List.ext_getElem (by simp [elimL, h]) fun i h1 h2 => ?_
  simp only [elimL, List.getElem_zipWith, h0]; grind

/-- The state of the program's elimination: rows, pivots, were rows exchanged an odd number of times. -/
abbrev St := Mat × List Nat × Bool
def clear (m : Mat) (t col : Nat) (s : Nat) : Mat := rows m fun i r => if t < i ∧ i < t + 1 + s then elimL r (m.getD t []) col else r
noncomputable def nzAt (m : Mat) (t col : Nat) : Option Nat := (m.drop t).findIdx? fun r => decide (r.getD col 0 ≠ 0)
noncomputable def eStep (s : St) (col : Nat) : St :=
  if s.2.1.length = s.1.length then s else
  match nzAt s.1 s.2.1.length col with
  | none => s
  | some k => (clear (swapL s.1 s.2.1.length (s.2.1.length + k)) s.2.1.length col s.1.length, s.2.1 ++ [col], s.2.2 != decide (k ≠ 0))
noncomputable def eN (m : Mat) : Nat → St
  | 0 => (m, [], false)
  | k + 1 => eStep (eN m k) k

theorem Shp.clear {n c : Nat} {m : Mat} (h : Shp n c m) {t : Nat} (ht : t < n) (col s : Nat) : Shp n c (clear m t col s) :=
  h.rows fun i hi r hr => by
    split
    · rw [elimL_len _ _ _ (by rw [hr, h.row ht]), h.row ht]
    · exact hr
theorem ent_clear {n c : Nat} {m : Mat} (h : Shp n c m) {t : Nat} (ht : t < n) (col s i j : Nat) : ent (clear m t col s) i j = if t < i ∧ i < t + 1 + s ∧ i < n then ent m i j - (ent m i col / ent m t col) * ent m t j else ent m i j := by
  by_cases hi : i < n
  · unfold Lin.clear
    rw [ent_rows (by rw [h.1]; exact hi)]
    by_cases a : t < i ∧ i < t + 1 + s
    · simp only [a, and_self, if_true, hi]
      rw [elimL_get _ _ _ _ (by rw [h.row hi, h.row ht])]; rfl
    · rw [if_neg a, if_neg (fun b => a ⟨b.1, b.2.1⟩)]; rfl
  · rw [ent_out (h.clear ht col s) (.inl (by omega)), if_neg (by omega), ent_out h (.inl (by omega))]
theorem re_clear {n c : Nat} {m : Mat} (h : Shp n c m) {t : Nat} (ht : t < n) (col s : Nat) : RE n c (ent m) (ent (clear m t col s)) 1 :=
  .addmany t ht (fun i => if t < i ∧ i < t + 1 + s ∧ i < n then - (ent m i col / ent m t col) else 0)
    (fun i hi e j hj => by rw [ent_clear h ht]; split <;> grind) (fun j hj => by rw [ent_clear h ht]; simp)

theorem nzAt_none {m : Mat} {t col : Nat} (h : nzAt m t col = none) (i : Nat) (hi : t ≤ i) : ent m i col = 0 := by
  unfold nzAt at h
  rw [List.findIdx?_eq_none_iff] at h
  by_cases a : i < m.length
  · have := h (m[i]) (by rw [List.mem_drop_iff_getElem]; exact ⟨i - t, by omega, by congr 1; omega⟩)
    unfold ent; simp only [List.getD_eq_getElem?_getD, a, getElem?_pos, Option.getD_some] at this ⊢
    simpa using this
  · unfold ent; rw [List.getD_eq_getElem?_getD (l := m), List.getElem?_eq_none (by omega)]; simp
theorem nzAt_some {m : Mat} {t col k : Nat} (h : nzAt m t col = some k) : t + k < m.length ∧ ent m (t + k) col ≠ 0 := by
  unfold nzAt at h
  rw [List.findIdx?_eq_some_iff_getElem] at h
  obtain ⟨h1, h2, _⟩ := h
  simp at h1
  refine ⟨by omega, ?_⟩
  unfold ent
  simp only [List.getElem_drop] at h2
  have a : t + k < m.length := by omega
  simp only [List.getD_eq_getElem?_getD, a, getElem?_pos, Option.getD_some] at h2 ⊢
  simpa using h2

/-- What the program's elimination keeps. -/
structure EOk (n c k : Nat) (m : Mat) (s : St) : Prop where
  shp : Shp n c s.1
  ech : Ech n k (ent s.1) s.2.1
  re : RE n c (ent m) (ent s.1) (if s.2.2 then -1 else 1)
theorem EOk.zero {n c : Nat} {m : Mat} (h : Shp n c m) : EOk n c 0 m (m, [], false) := ⟨h, Ech.nil _ _, .same fun _ _ _ _ => rfl⟩
theorem EOk.step {n c k : Nat} {m : Mat} {s : St} (h : EOk n c k m s) : EOk n c (k + 1) m (eStep s k) := by
  obtain ⟨M, p, odd⟩ := s
  have hs : Shp n c M := h.shp
  have he : Ech n k (ent M) p := h.ech
  have hr : RE n c (ent m) (ent M) (if odd then -1 else 1) := h.re
  have hl := hs.1
  unfold eStep
  dsimp only
  split
  · rename_i e
    exact ⟨hs, he.skip fun i hi hn => by omega, hr⟩
  · rename_i e
    split
    · rename_i hz
      exact ⟨hs, he.skip fun i hi _ => nzAt_none hz i hi, hr⟩
    · rename_i q hz
      obtain ⟨h1, h2⟩ := nzAt_some hz
      have hp : p.length < n := by have := he.le; omega
      have hpq : p.length + q < n := by omega
      have hs2 := hs.swap hp hpq
      have hes := fun i j => ent_swap hs hp hpq i j
      have hec := fun i j => ent_clear hs2 hp k M.length i j
      have hpiv : ent (swapL M p.length (p.length + q)) p.length k ≠ 0 := by
        rw [hes]; by_cases b : q = 0
        · subst b; simpa using h2
        · simp [b]; exact h2
      refine ⟨hs2.clear hp _ _, he.push hp (fun i hi j => ?_) (fun i hi hn j hj => ?_) ?_ (fun i hi hn => ?_), ?_⟩
      · rw [hec, if_neg (by omega), hes, if_neg (by omega), if_neg (by omega)]
      · have hz : ∀ i, p.length ≤ i → i < n → ent (swapL M p.length (p.length + q)) i j = 0 := fun i hi hn => by
          rw [hes]; split
          · exact he.below _ (by omega) hp j hj
          · split
            · exact he.below _ (by omega) hpq j hj
            · exact he.below _ hi hn j hj
        rw [hec]; split
        · rw [hz i hi hn, hz p.length (Nat.le_refl _) hp]; grind
        · exact hz i hi hn
      · rw [hec, if_neg (by omega)]; exact hpiv
      · rw [hec, if_pos ⟨hi, by omega, hn⟩]; grind
      · have hc := re_clear hs2 hp k M.length
        by_cases b : q = 0
        · subst b
          rw [Nat.add_zero, swapL_self M _ (by omega)] at hc ⊢
          exact hr.then_ hc (by cases odd <;> simp)
        · exact hr.then_ ((re_swap hs hp hpq (by omega)).then_ hc rfl) (by cases odd <;> simp [b]; grind)
theorem eN_ok {n c : Nat} {m : Mat} (h : Shp n c m) (k : Nat) : EOk n c k m (eN m k) := by
  induction k with
  | zero => exact EOk.zero h
  | succ k ih => exact ih.step
/-- Once there are as many pivots as rows, nothing turns any more. -/
theorem eN_stop (m : Mat) (k : Nat) (h : (eN m k).2.1.length = (eN m k).1.length) (k' : Nat) (hk : k ≤ k') : eN m k' = eN m k := by
  induction k' with
  | zero => have : k = 0 := by omega
            subst this; rfl
  | succ k' ih =>
    by_cases e : k = k' + 1
    · subst e; rfl
    · have := ih (by omega)
      show eStep (eN m k') k' = _
      rw [this]
      unfold eStep; rw [if_pos h]

/-- The program's second phase: the pivot's row i is divided, and taken from those above. -/
def divL (m : Mat) (i col : Nat) : Mat := m.set i ((m.getD i []).map (· / ent m i col))
def above (m : Mat) (i col s : Nat) : Mat := rows m fun k r => if k < i ∧ k < s then elimL r (m.getD i []) col else r
def dStep (m : Mat) (i col : Nat) : Mat := above (divL m i col) i col i
theorem getD_map_div (r : List Rat) (a : Rat) (j : Nat) : (r.map (· / a)).getD j 0 = r.getD j 0 / a := by
  simp only [List.getD_eq_getElem?_getD, List.getElem?_map]
  cases r[j]? with
  | none => simp; grind
  | some x => simp
theorem Shp.divL {n c : Nat} {m : Mat} (h : Shp n c m) {i : Nat} (hi : i < n) (col : Nat) : Shp n c (divL m i col) := h.set i (by rw [List.length_map]; exact h.row hi)
theorem ent_divL {n c : Nat} {m : Mat} (h : Shp n c m) {i : Nat} (hi : i < n) (col k j : Nat) : ent (divL m i col) k j = if k = i then ent m i j / ent m i col else ent m k j := by
  unfold divL
  rw [ent_set (by rw [h.1]; exact hi), getD_map_div]; rfl
theorem Shp.above {n c : Nat} {m : Mat} (h : Shp n c m) {t : Nat} (ht : t < n) (col s : Nat) : Shp n c (above m t col s) :=
  h.rows fun i hi r hr => by
    split
    · rw [elimL_len _ _ _ (by rw [hr, h.row ht]), h.row ht]
    · exact hr
theorem ent_above {n c : Nat} {m : Mat} (h : Shp n c m) {t : Nat} (ht : t < n) (col s i j : Nat) : ent (above m t col s) i j = if i < t ∧ i < s then ent m i j - (ent m i col / ent m t col) * ent m t j else ent m i j := by
  by_cases hi : i < n
  · unfold Lin.above
    rw [ent_rows (by rw [h.1]; exact hi)]
    by_cases a : i < t ∧ i < s
    · simp only [a, and_self, if_true]
      rw [elimL_get _ _ _ _ (by rw [h.row hi, h.row ht])]; rfl
    · rw [if_neg a, if_neg a]; rfl
  · rw [ent_out (h.above ht col s) (.inl (by omega)), if_neg (by omega), ent_out h (.inl (by omega))]
theorem re_above {n c : Nat} {m : Mat} (h : Shp n c m) {t : Nat} (ht : t < n) (col s : Nat) : RE n c (ent m) (ent (above m t col s)) 1 :=
  .addmany t ht (fun i => if i < t ∧ i < s then - (ent m i col / ent m t col) else 0)
    (fun i hi e j hj => by rw [ent_above h ht]; split <;> grind) (fun j hj => by rw [ent_above h ht]; simp)
theorem re_divL {n c : Nat} {m : Mat} (h : Shp n c m) {i : Nat} (hi : i < n) (col : Nat) (hne : ent m i col ≠ 0) : RE n c (ent m) (ent (divL m i col)) (1 / ent m i col) :=
  .scale i _ hi (by intro e; grind) (fun j _ => by rw [ent_divL h hi]; simp; grind) (fun r _ hr j _ => by rw [ent_divL h hi, if_neg hr])

noncomputable def dN (m : Mat) (p : List Nat) : Nat → Mat
  | 0 => m
  | t + 1 => dStep (dN m p t) t (p.getD t 0)
/-- What the second phase keeps. -/
structure DOk (n c t : Nat) (m : Mat) (p : List Nat) (s : Mat) : Prop where
  shp : Shp n c s
  ech : Ech n c (ent s) p
  red : Red n t (ent s) p
  re : ∃ d, RE n c (ent m) (ent s) d
theorem DOk.step {n c t : Nat} {m : Mat} {p : List Nat} {s : Mat} (h : DOk n c t m p s) (ht : t < p.length) : DOk n c (t + 1) m p (dStep s t (p.getD t 0)) := by
  have htn : t < n := Nat.lt_of_lt_of_le ht h.ech.le
  have hp : p.getD t 0 = p[t] := by simp [List.getD_eq_getElem?_getD, ht]
  rw [hp]
  have hd := h.shp.divL htn p[t]
  have hpv := h.ech.piv t ht
  have e1 := fun k j => ent_divL h.shp htn p[t] k j
  have e2 := fun i j => ent_above hd htn p[t] t i j
  obtain ⟨d, hre⟩ := h.re
  have hone : ent (divL s t p[t]) t p[t] = 1 := by rw [e1]; simp; grind
  have hrow : ∀ j, ent (dStep s t p[t]) t j = ent s t j / ent s t p[t] := fun j => by
    unfold dStep; rw [e2, if_neg (by omega), e1]; simp
  have := Red.step (g := ent (dStep s t p[t])) h.ech h.red ht hrow (fun i hi j => by
      rw [hrow]; unfold dStep; rw [e2, if_pos ⟨hi, hi⟩, hone, e1, e1, e1, if_neg (by omega), if_neg (by omega), if_pos rfl]; grind) (fun i hi j => by
      unfold dStep; rw [e2, if_neg (by omega), e1, if_neg (by omega)])
  exact ⟨hd.above htn _ _, this.1, this.2, _, hre.trans ((re_divL h.shp htn _ hpv).trans (re_above hd htn _ _))⟩
theorem dN_ok {n c : Nat} {m : Mat} {p : List Nat} (h : Shp n c m) (he : Ech n c (ent m) p) (t : Nat) (ht : t ≤ p.length) : DOk n c t m p (dN m p t) := by
  induction t with
  | zero => exact ⟨h, he, ⟨by intros; omega, by intros; omega⟩, 1, .same fun _ _ _ _ => rfl⟩
  | succ t ih => exact (ih (by omega)).step (by omega)

/-- The program's reduced form. -/
noncomputable def redP (m : Mat) (c : Nat) : Mat × List Nat := (dN (eN m c).1 (eN m c).2.1 (eN m c).2.1.length, (eN m c).2.1)
theorem redP_ok {n c : Nat} {m : Mat} (h : Shp n c m) : Shp n c (redP m c).1 ∧ Rref n c (ent (redP m c).1) (redP m c).2 ∧ ∃ d, RE n c (ent m) (ent (redP m c).1) d := by
  have h1 := eN_ok h c
  have h2 := dN_ok h1.shp h1.ech _ (Nat.le_refl _)
  obtain ⟨d, h3⟩ := h2.re
  exact ⟨h2.shp, h2.ech.rref h2.red, _, h1.re.trans h3⟩

/-- The reference's elimination: rows, pivots, factor. -/
abbrev Sr := Mat × List Nat × Rat
def pv (m : Mat) (t col : Nat) : Mat := m.set t ((m.getD t []).map (· * (1 / ent m t col)))
def out (m : Mat) (t col : Nat) (s : Nat) : Mat := rows m fun i r => if i ≠ t ∧ i < s then List.zipWith (· + ·) r ((m.getD t []).map (· * - r.getD col 0)) else r
noncomputable def rStep (s : Sr) (col : Nat) : Sr :=
  match nzAt s.1 s.2.1.length col with
  | none => s
  | some k => (out (pv (swapL s.1 (s.2.1.length + k) s.2.1.length) s.2.1.length col) s.2.1.length col s.1.length, s.2.1 ++ [col], (if k = 0 then s.2.2 else - s.2.2) * ent (swapL s.1 (s.2.1.length + k) s.2.1.length) s.2.1.length col)
noncomputable def rN (m : Mat) : Nat → Sr
  | 0 => (m, [], 1)
  | k + 1 => rStep (rN m k) k
theorem getD_map_mul (r : List Rat) (a : Rat) (j : Nat) : (r.map (· * a)).getD j 0 = r.getD j 0 * a := by
  simp only [List.getD_eq_getElem?_getD, List.getElem?_map]
  cases r[j]? with
  | none => simp
  | some x => simp
theorem zip_add (a b : List Rat) (h : a.length = b.length) (j : Nat) : (List.zipWith (· + ·) a b).getD j 0 = a.getD j 0 + b.getD j 0 := by
  simp only [List.getD_eq_getElem?_getD, List.getElem?_zipWith]
  by_cases hj : j < a.length
  · simp [hj, show j < b.length by omega]
  · simp [show ¬ j < a.length by omega, show ¬ j < b.length by omega]; grind
theorem Shp.pv {n c : Nat} {m : Mat} (h : Shp n c m) {i : Nat} (hi : i < n) (col : Nat) : Shp n c (pv m i col) := h.set i (by rw [List.length_map]; exact h.row hi)
theorem ent_pv {n c : Nat} {m : Mat} (h : Shp n c m) {i : Nat} (hi : i < n) (col k j : Nat) : ent (pv m i col) k j = if k = i then ent m i j * (1 / ent m i col) else ent m k j := by
  unfold pv
  rw [ent_set (by rw [h.1]; exact hi), getD_map_mul]; rfl
theorem Shp.out {n c : Nat} {m : Mat} (h : Shp n c m) {t : Nat} (ht : t < n) (col s : Nat) : Shp n c (out m t col s) :=
  h.rows fun i hi r hr => by
    split
    · rw [List.length_zipWith, List.length_map, hr, h.row ht]; omega
    · exact hr
theorem ent_outm {n c : Nat} {m : Mat} (h : Shp n c m) {t : Nat} (ht : t < n) (col s i j : Nat) : ent (out m t col s) i j = if i ≠ t ∧ i < s ∧ i < n then ent m i j + ent m t j * - ent m i col else ent m i j := by
  by_cases hi : i < n
  · unfold Lin.out
    rw [ent_rows (by rw [h.1]; exact hi)]
    by_cases a : i ≠ t ∧ i < s
    · rw [if_pos a, if_pos ⟨a.1, a.2, hi⟩, zip_add _ _ (by rw [List.length_map, h.row hi, h.row ht]), getD_map_mul]; rfl
    · rw [if_neg a, if_neg (fun b => a ⟨b.1, b.2.1⟩)]; rfl
  · rw [ent_out (h.out ht col s) (.inl (by omega)), if_neg (by omega), ent_out h (.inl (by omega))]
structure ROk (n c k : Nat) (m : Mat) (s : Sr) : Prop where
  shp : Shp n c s.1
  ref : Rref n k (ent s.1) s.2.1
  re : ∃ d, RE n c (ent m) (ent s.1) d ∧ s.2.2 * d = 1
theorem ROk.step {n c k : Nat} {m : Mat} {s : Sr} (h : ROk n c k m s) : ROk n c (k + 1) m (rStep s k) := by
  obtain ⟨M, p, fac⟩ := s
  have hs : Shp n c M := h.shp
  have he : Rref n k (ent M) p := h.ref
  obtain ⟨d, hr, hd⟩ : ∃ d, RE n c (ent m) (ent M) d ∧ fac * d = 1 := h.re
  have hl := hs.1
  unfold rStep
  dsimp only
  split
  · rename_i hz
    exact ⟨hs, he.skip fun i hi _ => nzAt_none hz i hi, d, hr, hd⟩
  · rename_i q hz
    obtain ⟨h1, h2⟩ := nzAt_some hz
    have hp : p.length < n := by omega
    have hpq : p.length + q < n := by omega
    have hs2 := hs.swap hpq hp
    have hes := fun i j => ent_swap hs hpq hp i j
    have hs3 := hs2.pv hp k
    have hep := fun i j => ent_pv hs2 hp k i j
    have heo := fun i j => ent_outm hs3 hp k M.length i j
    have hpiv : ent (swapL M (p.length + q) p.length) p.length k ≠ 0 := by rw [hes, if_pos rfl]; exact h2
    have hsw : Rref n k (ent (swapL M (p.length + q) p.length)) p := by
      have hsm : ∀ i, i < p.length → ∀ j, ent (swapL M (p.length + q) p.length) i j = ent M i j := fun i hi j => by
        rw [hes, if_neg (by omega), if_neg (by omega)]
      have hz0 : ∀ i, p.length ≤ i → i < n → ∀ j, j < k → ent (swapL M (p.length + q) p.length) i j = 0 := fun i hi hn j hj => by
        rw [hes]; split
        · exact he.below _ (by omega) hpq j hj
        · split
          · exact he.below _ (by omega) hp j hj
          · exact he.below _ hi hn j hj
      refine ⟨he.le, he.lt, he.inc, fun i hi j hj => by rw [hsm i hi]; exact he.left i hi j hj, fun i hi => by rw [hsm i hi]; exact he.one i hi, fun t ht i hi hit => ?_, hz0⟩
      by_cases a : i < p.length
      · rw [hsm i a]; exact he.zero t ht i hi hit
      · exact hz0 i (by omega) hi _ (he.lt t ht)
    have hrow : ∀ j, ent (out (pv (swapL M (p.length + q) p.length) p.length k) p.length k M.length) p.length j = ent (swapL M (p.length + q) p.length) p.length j * (1 / ent (swapL M (p.length + q) p.length) p.length k) := fun j => by
      rw [heo, if_neg (by omega), hep, if_pos rfl]
    refine ⟨hs3.out hp _ _, hsw.push hp hpiv hrow (fun i hi hne j => ?_), ?_⟩
    · rw [hrow, heo, if_pos ⟨hne, by omega, hi⟩, hep, hep, hep, if_neg hne, if_neg hne, if_pos rfl]
    · have hre3 : RE n c (ent (swapL M (p.length + q) p.length)) (ent (pv (swapL M (p.length + q) p.length) p.length k)) (1 / ent (swapL M (p.length + q) p.length) p.length k) :=
        .scale p.length _ hp (by intro e; grind) (fun j _ => by rw [hep]; simp; grind) (fun r _ hr j _ => by rw [hep, if_neg hr])
      have hre4 : RE n c (ent (pv (swapL M (p.length + q) p.length) p.length k)) (ent (out (pv (swapL M (p.length + q) p.length) p.length k) p.length k M.length)) 1 :=
        .addmany p.length hp (fun i => if i ≠ p.length ∧ i < M.length ∧ i < n then - ent (pv (swapL M (p.length + q) p.length) p.length k) i k else 0)
          (fun i hi e j hj => by rw [heo]; split <;> grind) (fun j hj => by rw [heo]; simp)
      by_cases b : q = 0
      · subst b
        rw [Nat.add_zero, swapL_self M _ (by omega)] at hre3 hre4 hpiv ⊢
        exact ⟨_, hr.trans (hre3.trans hre4), by simp; grind⟩
      · exact ⟨_, hr.trans ((re_swap hs hpq hp (by omega)).trans (hre3.trans hre4)), by simp [b]; grind⟩
theorem rN_ok {n c : Nat} {m : Mat} (h : Shp n c m) (k : Nat) : ROk n c k m (rN m k) := by
  induction k with
  | zero => exact ⟨h, Rref.nil _ _, 1, .same fun _ _ _ _ => rfl, by show (1 : Rat) * 1 = 1; grind⟩
  | succ k ih => exact ih.step
theorem rN_stop (m : Mat) (k : Nat) : (rN m k).2.1.length ≤ (rN m k).1.length → True := fun _ => trivial

/-- Both reduced forms are one. -/
theorem red_eq {n c : Nat} {m : Mat} (h : Shp n c m) : (redP m c).1 = (rN m c).1 ∧ (redP m c).2 = (rN m c).2.1 := by
  obtain ⟨h1, h2, d, h3⟩ := redP_ok h
  have h4 := rN_ok h c
  obtain ⟨e, h5, _⟩ := h4.re
  have := h2.unique h4.ref fun x => ((h3.nul x).symm.trans (h5.nul x))
  exact ⟨h1.ext h4.shp this.2, this.1⟩
/-- The reduced form of what row operations make. -/
theorem red_re {n c : Nat} {m m' : Mat} {d : Rat} (h : Shp n c m) (h' : Shp n c m') (hr : RE n c (ent m) (ent m') d) : redP m c = redP m' c := by
  obtain ⟨h1, h2, _, h3⟩ := redP_ok h
  obtain ⟨k1, k2, _, k3⟩ := redP_ok h'
  have := h2.unique k2 fun x => ((h3.nul x).symm.trans ((hr.nul x).trans (k3.nul x)))
  exact Prod.ext (h1.ext k1 this.2) this.1
theorem red_red {n c : Nat} {m : Mat} (h : Shp n c m) : redP (redP m c).1 c = redP m c := by
  obtain ⟨h1, h2, _, h3⟩ := redP_ok h
  exact (red_re h h1 h3).symm
end Go.Lin

namespace Go.Lin
open Go.Lim
/-- All numbers of a matrix have at most B digits. -/
def HB (B : Nat) (m : Mat) : Prop := ∀ i j, hq (ent m i j) ≤ B
theorem HB.pos {B : Nat} {m : Mat} (h : HB B m) : 1 ≤ B := Nat.le_trans (hq_pos _) (h 0 0)
theorem HB.mono {B C : Nat} {m : Mat} (h : HB B m) (hBC : B ≤ C) : HB C m := fun i j => Nat.le_trans (h i j) hBC
theorem HB.swap {n c B : Nat} {m : Mat} (h : HB B m) (hs : Shp n c m) {i k : Nat} (hi : i < n) (hk : k < n) : HB B (swapL m i k) := fun r j => by
  rw [ent_swap hs hi hk]; split
  · exact h _ _
  · split
    · exact h _ _
    · exact h _ _
theorem hq_elim {x y z u : Rat} {B : Nat} (hx : hq x ≤ B) (hy : hq y ≤ B) (hz : hq z ≤ B) (hu : hq u ≤ B) : hq (y / z) ≤ 2 * B ∧ hq (y / z * u) ≤ 3 * B ∧ hq (x - y / z * u) ≤ 5 * B := by
  have h1 := hq_div y z
  have h2 := hq_mul (y / z) u
  have h3 := hq_sub x (y / z * u)
  have h4 := hq_pos x
  omega
theorem HB.clear {n c B : Nat} {m : Mat} (h : HB B m) (hs : Shp n c m) {t : Nat} (ht : t < n) (col s : Nat) : HB (5 * B) (clear m t col s) := fun i j => by
  rw [ent_clear hs ht]; split
  · exact (hq_elim (h _ _) (h _ _) (h _ _) (h _ _)).2.2
  · have := h i j; omega
theorem HB.eN {n c B : Nat} {m : Mat} (h : HB B m) (hs : Shp n c m) (k : Nat) : HB (5 ^ (eN m k).2.1.length * B) (eN m k).1 := by
  induction k with
  | zero => simpa [Lin.eN] using h
  | succ k ih =>
    have hk := eN_ok hs k
    show HB (5 ^ (eStep (Lin.eN m k) k).2.1.length * B) (eStep (Lin.eN m k) k).1
    generalize Lin.eN m k = s at ih hk ⊢
    obtain ⟨M, p, odd⟩ := s
    have hM : Shp n c M := hk.shp
    have hl := hM.1
    have hle : p.length ≤ n := hk.ech.le
    unfold eStep
    dsimp only at ih ⊢
    split
    · exact ih
    · split
      · exact ih
      · rename_i e _ q hz
        obtain ⟨h1, h2⟩ := nzAt_some hz
        have := (ih.swap hM (show p.length < n by omega) (show p.length + q < n by omega)).clear (hM.swap (by omega) (by omega)) (show p.length < n by omega) k M.length
        refine this.mono ?_
        rw [List.length_append, List.length_singleton, Nat.pow_succ, Nat.mul_comm _ 5, Nat.mul_assoc]; exact Nat.le_refl _
theorem HB.divL {n c B : Nat} {m : Mat} (h : HB B m) (hs : Shp n c m) {i : Nat} (hi : i < n) (col : Nat) : HB (2 * B) (divL m i col) := fun k j => by
  rw [ent_divL hs hi]; split
  · have := hq_div (ent m i j) (ent m i col); have := h i j; have := h i col; omega
  · have := h k j; omega
theorem hq_elim2 {x y z u : Rat} {B : Nat} (hx : hq x ≤ B) (hy : hq y ≤ B) (hz : hq z ≤ 2 * B) (hu : hq u ≤ 2 * B) : hq (y / z) ≤ 3 * B ∧ hq (y / z * u) ≤ 5 * B ∧ hq (x - y / z * u) ≤ 7 * B := by
  have h1 := hq_div y z
  have h2 := hq_mul (y / z) u
  have h3 := hq_sub x (y / z * u)
  have h4 := hq_pos x
  omega
theorem HB.dStep {n c B : Nat} {m : Mat} (h : HB B m) (hs : Shp n c m) {t : Nat} (ht : t < n) (col s : Nat) : HB (7 * B) (above (Lin.divL m t col) t col s) := fun i j => by
  have hd := hs.divL ht col
  have h2 := h.divL hs ht col
  rw [ent_above hd ht]; split
  · refine (hq_elim2 ?_ ?_ (h2 _ _) (h2 _ _)).2.2
    · rw [ent_divL hs ht, if_neg (by omega)]; exact h _ _
    · rw [ent_divL hs ht, if_neg (by omega)]; exact h _ _
  · have := h2 i j; omega
theorem HB.dN {n c B : Nat} {m : Mat} {p : List Nat} (h : HB B m) (hs : Shp n c m) (he : Ech n c (ent m) p) (t : Nat) (ht : t ≤ p.length) : HB (7 ^ t * B) (dN m p t) := by
  induction t with
  | zero => simpa [Lin.dN] using h
  | succ t ih =>
    have hk := dN_ok hs he t (by omega)
    have hle := he.le
    refine ((ih (by omega)).dStep hk.shp (show t < n by omega) (p.getD t 0) t).mono ?_
    rw [Nat.pow_succ, Nat.mul_comm _ 7, Nat.mul_assoc]; exact Nat.le_refl _
theorem HB.pv {n c B : Nat} {m : Mat} (h : HB B m) (hs : Shp n c m) {i : Nat} (hi : i < n) (col : Nat) : HB (3 * B) (pv m i col) := fun k j => by
  rw [ent_pv hs hi]; split
  · have h1 := hq_mul (ent m i j) (1 / ent m i col); have h2 := hq_div 1 (ent m i col); have := h i j; have := h i col; have := hq_pos (ent m i j)
    have h3 : hq 1 = 1 := by decide +kernel
    omega
  · have := h k j; omega
theorem HB.out {n c B : Nat} {m : Mat} (h : HB B m) (hs : Shp n c m) {t : Nat} (ht : t < n) (col s : Nat) : HB (6 * B) (Lin.out (Lin.pv m t col) t col s) := fun i j => by
  have hd := hs.pv ht col
  have h2 := h.pv hs ht col
  rw [ent_outm hd ht]; split
  · rename_i a
    have e : ∀ j, ent (Lin.pv m t col) i j = ent m i j := fun j => by rw [ent_pv hs ht, if_neg a.1]
    rw [e, e]
    have h3 := hq_mul (ent (Lin.pv m t col) t j) (- ent m i col)
    have h4 := hq_add (ent m i j) (ent (Lin.pv m t col) t j * - ent m i col)
    rw [hq_neg] at h3
    have := h2 t j; have := h i j; have := h i col; have := h.pos
    omega
  · have := h2 i j; omega
theorem HB.rN {n c B : Nat} {m : Mat} (h : HB B m) (hs : Shp n c m) (k : Nat) : HB (6 ^ (rN m k).2.1.length * B) (rN m k).1 ∧ hq (rN m k).2.2 ≤ 6 ^ (rN m k).2.1.length * B := by
  induction k with
  | zero => exact ⟨by simpa [Lin.rN] using h, by simp [Lin.rN]; exact h.pos⟩
  | succ k ih =>
    have hk := rN_ok hs k
    show HB (6 ^ (rStep (Lin.rN m k) k).2.1.length * B) (rStep (Lin.rN m k) k).1 ∧ hq (rStep (Lin.rN m k) k).2.2 ≤ 6 ^ (rStep (Lin.rN m k) k).2.1.length * B
    generalize Lin.rN m k = s at ih hk ⊢
    obtain ⟨M, p, fac⟩ := s
    have hM : Shp n c M := hk.shp
    have hl := hM.1
    have hle : p.length ≤ n := hk.ref.le
    unfold rStep
    dsimp only at ih ⊢
    split
    · exact ih
    · rename_i e q hz
      obtain ⟨h1, h2⟩ := nzAt_some hz
      have hsw := (ih.1.swap hM (show p.length + q < n by omega) (show p.length < n by omega))
      have := hsw.out (hM.swap (by omega) (by omega)) (show p.length < n by omega) k M.length
      have he : 6 * (6 ^ p.length * B) = 6 ^ (p ++ [k]).length * B := by
        rw [List.length_append, List.length_singleton, Nat.pow_succ, Nat.mul_comm _ 6, Nat.mul_assoc]
      refine ⟨this.mono (Nat.le_of_eq he), ?_⟩
      dsimp only
      rw [← he]
      have h3 := hsw p.length k
      have h4 : hq (if q = 0 then fac else -fac) ≤ 6 ^ p.length * B := by
        split
        · exact ih.2
        · rw [hq_neg]; exact ih.2
      have h5 := hq_mul (if q = 0 then fac else -fac) (ent (swapL M (p.length + q) p.length) p.length k)
      omega
end Go.Lin

namespace Go.Lin
/-- The determinant, along the first column. -/
def det : Nat → F2 → Rat
  | 0, _ => 1
  | n + 1, f => sm (n + 1) fun i => (if i % 2 = 0 then 1 else -1) * f i 0 * det n fun r c => f (if r < i then r else r + 1) (c + 1)
theorem det_congr {n : Nat} {f g : F2} (h : Eqm n n f g) : det n f = det n g := by
  induction n generalizing f g with
  | zero => rfl
  | succ n ih =>
    unfold det
    refine sm_congr fun i hi => ?_
    rw [h i hi 0 (by omega), ih (g := fun r c => g (if r < i then r else r + 1) (c + 1)) fun r hr c hc => h _ (by split <;> omega) _ (by omega)]
theorem det_0 (f : F2) : det 0 f = 1 := rfl
theorem det_1 (f : F2) : det 1 f = f 0 0 := by simp [det, sm]; grind
theorem det_2 (f : F2) : det 2 f = f 0 0 * f 1 1 - f 1 0 * f 0 1 := by simp [det, sm]; grind
theorem det_3 (f : F2) : det 3 f = f 0 0 * (f 1 1 * f 2 2 - f 2 1 * f 1 2) - f 1 0 * (f 0 1 * f 2 2 - f 2 1 * f 0 2) + f 2 0 * (f 0 1 * f 1 2 - f 1 1 * f 0 2) := by
  simp [det, sm]; grind
theorem det_4 (f : F2) : det 4 f = f 0 0 * (f 1 1 * (f 2 2 * f 3 3 - f 3 2 * f 2 3) - f 2 1 * (f 1 2 * f 3 3 - f 3 2 * f 1 3) + f 3 1 * (f 1 2 * f 2 3 - f 2 2 * f 1 3))
    - f 1 0 * (f 0 1 * (f 2 2 * f 3 3 - f 3 2 * f 2 3) - f 2 1 * (f 0 2 * f 3 3 - f 3 2 * f 0 3) + f 3 1 * (f 0 2 * f 2 3 - f 2 2 * f 0 3))
    + f 2 0 * (f 0 1 * (f 1 2 * f 3 3 - f 3 2 * f 1 3) - f 1 1 * (f 0 2 * f 3 3 - f 3 2 * f 0 3) + f 3 1 * (f 0 2 * f 1 3 - f 1 2 * f 0 3))
    - f 3 0 * (f 0 1 * (f 1 2 * f 2 3 - f 2 2 * f 1 3) - f 1 1 * (f 0 2 * f 2 3 - f 2 2 * f 0 3) + f 2 1 * (f 0 2 * f 1 3 - f 1 2 * f 0 3)) := by
  simp [det, sm]; grind
theorem lt4 {P : Nat → Prop} (h0 : P 0) (h1 : P 1) (h2 : P 2) (h3 : P 3) (i : Nat) (hi : i < 4) : P i := by
  match i, hi with
  | 0, _ => exact h0
  | 1, _ => exact h1
  | 2, _ => exact h2
  | 3, _ => exact h3
theorem lt1 {P : Nat → Prop} (h0 : P 0) (i : Nat) (hi : i < 1) : P i := by
  match i, hi with
  | 0, _ => exact h0
theorem det_swap1 (f g : F2) (i k : Nat) (hi : i < 1) (hk : k < 1) (hik : i ≠ k) (h1 : ∀ j, j < 1 → g i j = f k j) (h2 : ∀ j, j < 1 → g k j = f i j) (h3 : ∀ r, r < 1 → r ≠ i → r ≠ k → ∀ j, j < 1 → g r j = f r j) : det 1 g = - det 1 f := by
  have e : Eqm 1 1 g (fun r j => if r = i then f k j else if r = k then f i j else f r j) := fun r hr j hj => by
    dsimp only; split
    · subst_vars; exact h1 j hj
    · split
      · subst_vars; exact h2 j hj
      · exact h3 r hr (by assumption) (by assumption) j hj
  rw [det_congr e]
  clear e h1 h2 h3
  revert hik
  revert k
  revert i
  refine lt1 ?_ <;> refine lt1 ?_ <;> intro hik <;> first | exact absurd rfl hik | (rw [det_1, det_1]; simp; try grind)
theorem det_scale1 (f g : F2) (i : Nat) (a : Rat) (hi : i < 1) (h1 : ∀ j, j < 1 → g i j = a * f i j) (h3 : ∀ r, r < 1 → r ≠ i → ∀ j, j < 1 → g r j = f r j) : det 1 g = a * det 1 f := by
  have e : Eqm 1 1 g (fun r j => if r = i then a * f i j else f r j) := fun r hr j hj => by
    dsimp only; split
    · subst_vars; exact h1 j hj
    · exact h3 r hr (by assumption) j hj
  rw [det_congr e]
  clear e h1 h3
  revert i
  refine lt1 ?_ <;> (rw [det_1, det_1]; simp; try grind)
theorem det_add1 (f g : F2) (i k : Nat) (a : Rat) (hi : i < 1) (hk : k < 1) (hik : i ≠ k) (h1 : ∀ j, j < 1 → g i j = f i j + a * f k j) (h3 : ∀ r, r < 1 → r ≠ i → ∀ j, j < 1 → g r j = f r j) : det 1 g = det 1 f := by
  have e : Eqm 1 1 g (fun r j => if r = i then f i j + a * f k j else f r j) := fun r hr j hj => by
    dsimp only; split
    · subst_vars; exact h1 j hj
    · exact h3 r hr (by assumption) j hj
  rw [det_congr e]
  clear e h1 h3
  revert hik
  revert k
  revert i
  refine lt1 ?_ <;> refine lt1 ?_ <;> intro hik <;> first | exact absurd rfl hik | (rw [det_1, det_1]; simp; try grind)
theorem det_tr1 (f : F2) : det 1 (fun i j => f j i) = det 1 f := by
  rw [det_1, det_1]; try grind
theorem det_tri1 (f : F2) (h : ∀ i j, i < 1 → j < i → f i j = 0) : det 1 f = f 0 0 := by

  rw [det_1]
theorem lt2 {P : Nat → Prop} (h0 : P 0) (h1 : P 1) (i : Nat) (hi : i < 2) : P i := by
  match i, hi with
  | 0, _ => exact h0
  | 1, _ => exact h1
theorem det_swap2 (f g : F2) (i k : Nat) (hi : i < 2) (hk : k < 2) (hik : i ≠ k) (h1 : ∀ j, j < 2 → g i j = f k j) (h2 : ∀ j, j < 2 → g k j = f i j) (h3 : ∀ r, r < 2 → r ≠ i → r ≠ k → ∀ j, j < 2 → g r j = f r j) : det 2 g = - det 2 f := by
  have e : Eqm 2 2 g (fun r j => if r = i then f k j else if r = k then f i j else f r j) := fun r hr j hj => by
    dsimp only; split
    · subst_vars; exact h1 j hj
    · split
      · subst_vars; exact h2 j hj
      · exact h3 r hr (by assumption) (by assumption) j hj
  rw [det_congr e]
  clear e h1 h2 h3
  revert hik
  revert k
  revert i
  refine lt2 ?_ ?_ <;> refine lt2 ?_ ?_ <;> intro hik <;> first | exact absurd rfl hik | (rw [det_2, det_2]; simp; try grind)
theorem det_scale2 (f g : F2) (i : Nat) (a : Rat) (hi : i < 2) (h1 : ∀ j, j < 2 → g i j = a * f i j) (h3 : ∀ r, r < 2 → r ≠ i → ∀ j, j < 2 → g r j = f r j) : det 2 g = a * det 2 f := by
  have e : Eqm 2 2 g (fun r j => if r = i then a * f i j else f r j) := fun r hr j hj => by
    dsimp only; split
    · subst_vars; exact h1 j hj
    · exact h3 r hr (by assumption) j hj
  rw [det_congr e]
  clear e h1 h3
  revert i
  refine lt2 ?_ ?_ <;> (rw [det_2, det_2]; simp; try grind)
theorem det_add2 (f g : F2) (i k : Nat) (a : Rat) (hi : i < 2) (hk : k < 2) (hik : i ≠ k) (h1 : ∀ j, j < 2 → g i j = f i j + a * f k j) (h3 : ∀ r, r < 2 → r ≠ i → ∀ j, j < 2 → g r j = f r j) : det 2 g = det 2 f := by
  have e : Eqm 2 2 g (fun r j => if r = i then f i j + a * f k j else f r j) := fun r hr j hj => by
    dsimp only; split
    · subst_vars; exact h1 j hj
    · exact h3 r hr (by assumption) j hj
  rw [det_congr e]
  clear e h1 h3
  revert hik
  revert k
  revert i
  refine lt2 ?_ ?_ <;> refine lt2 ?_ ?_ <;> intro hik <;> first | exact absurd rfl hik | (rw [det_2, det_2]; simp; try grind)
theorem det_tr2 (f : F2) : det 2 (fun i j => f j i) = det 2 f := by
  rw [det_2, det_2]; try grind
theorem det_tri2 (f : F2) (h : ∀ i j, i < 2 → j < i → f i j = 0) : det 2 f = f 0 0 * f 1 1 := by
  have z10 := h 1 0 (by omega) (by omega)
  rw [det_2]; simp [z10]; try grind
theorem lt3 {P : Nat → Prop} (h0 : P 0) (h1 : P 1) (h2 : P 2) (i : Nat) (hi : i < 3) : P i := by
  match i, hi with
  | 0, _ => exact h0
  | 1, _ => exact h1
  | 2, _ => exact h2
theorem det_swap3 (f g : F2) (i k : Nat) (hi : i < 3) (hk : k < 3) (hik : i ≠ k) (h1 : ∀ j, j < 3 → g i j = f k j) (h2 : ∀ j, j < 3 → g k j = f i j) (h3 : ∀ r, r < 3 → r ≠ i → r ≠ k → ∀ j, j < 3 → g r j = f r j) : det 3 g = - det 3 f := by
  have e : Eqm 3 3 g (fun r j => if r = i then f k j else if r = k then f i j else f r j) := fun r hr j hj => by
    dsimp only; split
    · subst_vars; exact h1 j hj
    · split
      · subst_vars; exact h2 j hj
      · exact h3 r hr (by assumption) (by assumption) j hj
  rw [det_congr e]
  clear e h1 h2 h3
  revert hik
  revert k
  revert i
  refine lt3 ?_ ?_ ?_ <;> refine lt3 ?_ ?_ ?_ <;> intro hik <;> first | exact absurd rfl hik | (rw [det_3, det_3]; simp; try grind)
theorem det_scale3 (f g : F2) (i : Nat) (a : Rat) (hi : i < 3) (h1 : ∀ j, j < 3 → g i j = a * f i j) (h3 : ∀ r, r < 3 → r ≠ i → ∀ j, j < 3 → g r j = f r j) : det 3 g = a * det 3 f := by
  have e : Eqm 3 3 g (fun r j => if r = i then a * f i j else f r j) := fun r hr j hj => by
    dsimp only; split
    · subst_vars; exact h1 j hj
    · exact h3 r hr (by assumption) j hj
  rw [det_congr e]
  clear e h1 h3
  revert i
  refine lt3 ?_ ?_ ?_ <;> (rw [det_3, det_3]; simp; try grind)
theorem det_add3 (f g : F2) (i k : Nat) (a : Rat) (hi : i < 3) (hk : k < 3) (hik : i ≠ k) (h1 : ∀ j, j < 3 → g i j = f i j + a * f k j) (h3 : ∀ r, r < 3 → r ≠ i → ∀ j, j < 3 → g r j = f r j) : det 3 g = det 3 f := by
  have e : Eqm 3 3 g (fun r j => if r = i then f i j + a * f k j else f r j) := fun r hr j hj => by
    dsimp only; split
    · subst_vars; exact h1 j hj
    · exact h3 r hr (by assumption) j hj
  rw [det_congr e]
  clear e h1 h3
  revert hik
  revert k
  revert i
  refine lt3 ?_ ?_ ?_ <;> refine lt3 ?_ ?_ ?_ <;> intro hik <;> first | exact absurd rfl hik | (rw [det_3, det_3]; simp; try grind)
theorem det_tr3 (f : F2) : det 3 (fun i j => f j i) = det 3 f := by
  rw [det_3, det_3]; try grind
theorem det_tri3 (f : F2) (h : ∀ i j, i < 3 → j < i → f i j = 0) : det 3 f = f 0 0 * f 1 1 * f 2 2 := by
  have z10 := h 1 0 (by omega) (by omega)
  have z20 := h 2 0 (by omega) (by omega)
  have z21 := h 2 1 (by omega) (by omega)
  rw [det_3]; simp [z10, z20, z21]; try grind
theorem det_swap4 (f g : F2) (i k : Nat) (hi : i < 4) (hk : k < 4) (hik : i ≠ k) (h1 : ∀ j, j < 4 → g i j = f k j) (h2 : ∀ j, j < 4 → g k j = f i j) (h3 : ∀ r, r < 4 → r ≠ i → r ≠ k → ∀ j, j < 4 → g r j = f r j) : det 4 g = - det 4 f := by
  have e : Eqm 4 4 g (fun r j => if r = i then f k j else if r = k then f i j else f r j) := fun r hr j hj => by
    dsimp only; split
    · subst_vars; exact h1 j hj
    · split
      · subst_vars; exact h2 j hj
      · exact h3 r hr (by assumption) (by assumption) j hj
  rw [det_congr e]
  clear e h1 h2 h3
  revert hik
  revert k
  revert i
  refine lt4 ?_ ?_ ?_ ?_ <;> refine lt4 ?_ ?_ ?_ ?_ <;> intro hik <;> first | exact absurd rfl hik | (rw [det_4, det_4]; simp; try grind)
theorem det_scale4 (f g : F2) (i : Nat) (a : Rat) (hi : i < 4) (h1 : ∀ j, j < 4 → g i j = a * f i j) (h3 : ∀ r, r < 4 → r ≠ i → ∀ j, j < 4 → g r j = f r j) : det 4 g = a * det 4 f := by
  have e : Eqm 4 4 g (fun r j => if r = i then a * f i j else f r j) := fun r hr j hj => by
    dsimp only; split
    · subst_vars; exact h1 j hj
    · exact h3 r hr (by assumption) j hj
  rw [det_congr e]
  clear e h1 h3
  revert i
  refine lt4 ?_ ?_ ?_ ?_ <;> (rw [det_4, det_4]; simp; try grind)
theorem det_add4 (f g : F2) (i k : Nat) (a : Rat) (hi : i < 4) (hk : k < 4) (hik : i ≠ k) (h1 : ∀ j, j < 4 → g i j = f i j + a * f k j) (h3 : ∀ r, r < 4 → r ≠ i → ∀ j, j < 4 → g r j = f r j) : det 4 g = det 4 f := by
  have e : Eqm 4 4 g (fun r j => if r = i then f i j + a * f k j else f r j) := fun r hr j hj => by
    dsimp only; split
    · subst_vars; exact h1 j hj
    · exact h3 r hr (by assumption) j hj
  rw [det_congr e]
  clear e h1 h3
  revert hik
  revert k
  revert i
  refine lt4 ?_ ?_ ?_ ?_ <;> refine lt4 ?_ ?_ ?_ ?_ <;> intro hik <;> first | exact absurd rfl hik | (rw [det_4, det_4]; simp; try grind)
theorem det_tr4 (f : F2) : det 4 (fun i j => f j i) = det 4 f := by
  rw [det_4, det_4]; try grind
theorem det_tri4 (f : F2) (h : ∀ i j, i < 4 → j < i → f i j = 0) : det 4 f = f 0 0 * f 1 1 * f 2 2 * f 3 3 := by
  have z10 := h 1 0 (by omega) (by omega)
  have z20 := h 2 0 (by omega) (by omega)
  have z21 := h 2 1 (by omega) (by omega)
  have z30 := h 3 0 (by omega) (by omega)
  have z31 := h 3 1 (by omega) (by omega)
  have z32 := h 3 2 (by omega) (by omega)
  rw [det_4]; simp [z10, z20, z21, z30, z31, z32]; try grind
theorem RE.det_same {n : Nat} {f g : F2} {d : Rat} (hn : n ≤ 4) (h : RE n n f g d) : det n g = d * det n f := by
  induction h with
  | same h => rw [det_congr h]; grind
  | swap i k hi hk hik h1 h2 h3 =>
    match n, hn with
    | 1, _ => rw [det_swap1 _ _ i k hi hk hik h1 h2 h3]; grind
    | 2, _ => rw [det_swap2 _ _ i k hi hk hik h1 h2 h3]; grind
    | 3, _ => rw [det_swap3 _ _ i k hi hk hik h1 h2 h3]; grind
    | 4, _ => rw [det_swap4 _ _ i k hi hk hik h1 h2 h3]; grind
  | scale i a hi ha h1 h3 =>
    match n, hn with
    | 1, _ => exact det_scale1 _ _ i a hi h1 h3
    | 2, _ => exact det_scale2 _ _ i a hi h1 h3
    | 3, _ => exact det_scale3 _ _ i a hi h1 h3
    | 4, _ => exact det_scale4 _ _ i a hi h1 h3
  | add i k a hi hk hik h1 h3 =>
    match n, hn with
    | 1, _ => rw [det_add1 _ _ i k a hi hk hik h1 h3]; grind
    | 2, _ => rw [det_add2 _ _ i k a hi hk hik h1 h3]; grind
    | 3, _ => rw [det_add3 _ _ i k a hi hk hik h1 h3]; grind
    | 4, _ => rw [det_add4 _ _ i k a hi hk hik h1 h3]; grind
  | trans _ _ ih1 ih2 => rw [ih2, ih1]; grind
theorem det_tr {n : Nat} (hn : n ≤ 4) (f : F2) : det n (fun i j => f j i) = det n f := by
  match n, hn with
  | 0, _ => rfl
  | 1, _ => exact det_tr1 f
  | 2, _ => exact det_tr2 f
  | 3, _ => exact det_tr3 f
  | 4, _ => exact det_tr4 f
/-- A product of n numbers. -/
def pr : Nat → (Nat → Rat) → Rat
  | 0, _ => 1
  | n + 1, f => pr n f * f n
theorem det_tri {n : Nat} (hn : n ≤ 4) (f : F2) (h : ∀ i j, i < n → j < i → f i j = 0) : det n f = pr n fun i => f i i := by
  match n, hn with
  | 0, _ => rfl
  | 1, _ => rw [det_tri1 f h]; simp [pr]; try grind
  | 2, _ => rw [det_tri2 f h]; simp [pr]; try grind
  | 3, _ => rw [det_tri3 f h]; simp [pr]; try grind
  | 4, _ => rw [det_tri4 f h]; simp [pr]; try grind
theorem det_row0 {n : Nat} (hn : n ≤ 4) (f : F2) (i : Nat) (hi : i < n) (h : ∀ j, j < n → f i j = 0) : det n f = 0 := by
  have := (RE.scale (n := n) (c := n) (f := f) (g := f) i 2 hi (by grind) (fun j hj => by rw [h j hj]; grind) (fun _ _ _ _ _ => rfl)).det_same hn
  grind
theorem Ech.ge {n k : Nat} {f : F2} {p : List Nat} (h : Ech n k f p) (i : Nat) (hi : i < p.length) : i ≤ p[i] := by
  induction i with
  | zero => omega
  | succ i ih => have := ih (by omega); have := h.inc i (i + 1) (by omega) hi; omega
/-- The determinant of a row echelon form. -/
theorem Ech.det {n : Nat} {f : F2} {p : List Nat} (hn : n ≤ 4) (h : Ech n n f p) : Lin.det n f = pr n fun i => f i i :=
  det_tri hn f fun i j hi hj => by
    by_cases a : i < p.length
    · exact h.left i a j (by have := h.ge i a; omega)
    · exact h.below i (by omega) hi j (by omega)
theorem Rref.ge {n k : Nat} {f : F2} {p : List Nat} (h : Rref n k f p) (i : Nat) (hi : i < p.length) : i ≤ p[i] := by
  induction i with
  | zero => omega
  | succ i ih => have := ih (by omega); have := h.inc i (i + 1) (by omega) hi; omega
/-- A full reduced form of a square matrix is the unit matrix. -/
theorem Rref.diag {n c : Nat} {f : F2} {p : List Nat} (h : Rref n c f p) (hp : p.length = n) (hc : ∀ i (hi : i < p.length), p[i] < n) (i : Nat) (hi : i < n) : p[i]'(by omega) = i := by
  have h1 : ∀ q, q < n → ∀ hq : n - 1 - q < p.length, p[n - 1 - q] ≤ n - 1 - q := by
    intro q
    induction q with
    | zero => intro h0 hq; have := hc _ hq; omega
    | succ q ih =>
      intro h0 hq
      have h2 := ih (by omega) (by omega)
      have h3 := h.inc (n - 1 - (q + 1)) (n - 1 - q) (by omega) (by omega)
      omega
  have h2 := h1 (n - 1 - i) (by omega) (by omega)
  have h3 := h.ge i (by omega)
  have e : n - 1 - (n - 1 - i) = i := by omega
  simp only [e] at h2
  omega
theorem Rref.unit {n c : Nat} {f : F2} {p : List Nat} (h : Rref n c f p) (hp : p.length = n) (hc : ∀ i (hi : i < p.length), p[i] < n) : Eqm n n f fun i j => if i = j then 1 else 0 := fun i hi j hj => by
  have hd := h.diag hp hc j hj
  by_cases e : i = j
  · subst e
    have := h.one i (by omega); rw [hd] at this; simpa using this
  · have := h.zero j (by omega) i hi e; rw [hd] at this; simpa [e] using this
theorem det_unit {n : Nat} (hn : n ≤ 4) : det n (fun i j => if i = j then 1 else 0) = 1 := by
  match n, hn with
  | 0, _ => rfl
  | 1, _ => rw [det_1]; simp
  | 2, _ => rw [det_2]; simp; try grind
  | 3, _ => rw [det_3]; simp; try grind
  | 4, _ => rw [det_4]; simp; try grind
/-- The determinant of a reduced form. -/
theorem Rref.det {n : Nat} {f : F2} {p : List Nat} (hn : n ≤ 4) (h : Rref n n f p) : Lin.det n f = if p.length = n then 1 else 0 := by
  have hle := h.le
  split
  · rename_i e
    rw [det_congr (h.unit e h.lt), det_unit hn]
  · exact det_row0 hn f p.length (by omega) (h.below _ (Nat.le_refl _) (by omega))

/-- The product of two matrices. -/
def mul (n : Nat) (f g : F2) : F2 := fun i j => sm n fun k => f i k * g k j
theorem RE.mulr {n m c : Nat} {f g : F2} {d : Rat} (h : RE n m f g d) (b : F2) : RE n c (mul m f b) (mul m g b) d := by
  induction h with
  | same h => exact .same fun i hi j _ => sm_congr fun k hk => by rw [h i hi k hk]
  | swap i k hi hk hik h1 h2 h3 =>
    exact .swap i k hi hk hik (fun j _ => sm_congr fun q hq => by rw [h1 q hq]) (fun j _ => sm_congr fun q hq => by rw [h2 q hq]) (fun r hr a b j _ => sm_congr fun q hq => by rw [h3 r hr a b q hq])
  | scale i a hi ha h1 h3 =>
    exact .scale i a hi ha (fun j _ => by unfold mul; rw [← sm_mul]; exact sm_congr fun q hq => by rw [h1 q hq]; grind) (fun r hr a j _ => sm_congr fun q hq => by rw [h3 r hr a q hq])
  | add i k a hi hk hik h1 h3 =>
    exact .add i k a hi hk hik (fun j _ => by unfold mul; rw [← sm_mul, ← sm_add]; exact sm_congr fun q hq => by rw [h1 q hq]; grind) (fun r hr a j _ => sm_congr fun q hq => by rw [h3 r hr a q hq])
  | trans _ _ ih1 ih2 => exact ih1.trans ih2
/-- The determinant of a product, by a reduced form of the first factor. -/
theorem det_mul {n : Nat} (hn : n ≤ 4) (f g r : F2) (p : List Nat) (d : Rat) (hr : Rref n n r p) (hd : RE n n f r d) : det n (mul n f g) = det n f * det n g := by
  have h1 := hd.det_same hn
  have h2 := (hd.mulr g (c := n)).det_same hn
  have h3 := hr.det hn
  have h4 := hd.ne
  have hle := hr.le
  by_cases e : p.length = n
  · rw [if_pos e] at h3
    have h5 : Eqm n n (mul n r g) g := fun i hi j hj => by
      unfold mul
      rw [sm_congr (g := fun k => (if i = k then 1 else 0) * g k j) fun k hk => by rw [hr.unit e hr.lt i hi k hk], sm_one i hi fun k _ hk => by simp [Ne.symm hk]]
      simp
    rw [det_congr h5] at h2
    grind
  · rw [if_neg e] at h3
    have h5 : det n (mul n r g) = 0 := det_row0 hn _ p.length (by omega) fun j hj => sm_zero fun k hk => by rw [hr.below _ (Nat.le_refl _) (by omega) k hk]; grind
    have h6 : det n (mul n f g) = 0 := by
      rw [h5] at h2
      rcases Rat.mul_eq_zero.1 h2.symm with h | h
      · contradiction
      · exact h
    have h7 : det n f = 0 := by
      rw [h3] at h1
      rcases Rat.mul_eq_zero.1 h1.symm with h | h
      · contradiction
      · exact h
    rw [h6, h7]; grind
end Go.Lin
