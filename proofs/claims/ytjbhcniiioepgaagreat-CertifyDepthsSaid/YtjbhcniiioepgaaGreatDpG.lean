/- Row echelon forms and reduced forms, column by column. Conditions: none. Elimination over lists of rows: what the two programs compute is the reduced form. Conditions: none. Determinants of at most four rows: row operations, products, the transposed matrix, triangles. Conditions: none. Ranks, null vectors and solutions, read off the reduced form. Conditions: none. Depth of a point: vectors, products, counts; a direction turned a little. Conditions: none. Depth of a point: a direction can be turned till only its multiples keep its boundary. Conditions: none. Bases and dimensions of what is orthogonal to some vectors; the rows that leave but one direction. Conditions: none. Depth of a point: the search over the directions that are orthogonal to some of the vectors. Conditions: none. Directions one behind the other, and the end of a search for the depth. Conditions: none. The search for the depth over lists: null spaces, pivot columns. Conditions: none. What a search for the depth keeps from round to round, and what it ends with. Conditions: none. Depth and maps of the plane; depth and equal points; counts of directions by rows. Conditions: none. How large the numbers of an elimination grow. Conditions: none. matrix: formed, columns. Conditions: lengths far below any machine's. matrix: zero. Conditions: few rows and columns. matrix: copied. Conditions: few rows and columns. Elements of rows that a call has made itself: loads. Conditions: none. Matrices whose elimination stays small: those of small numbers, and those that are reduced. Conditions: none. Products of rows and matrices, the transposed matrix, over lists. Conditions: none. matrix: Transpose. Conditions: few rows and columns, numbers of at most 2^36 digits. matrix: dot. Conditions: few numbers of at most 2^36 digits. matrix: Apply, Mul. Conditions: few rows and columns, numbers of few digits. halfspace: centred. Conditions: at most 1000 rows and columns. exact: Dot. Conditions: few numbers of at most 2^36 digits. Growth of the numbers of an elimination by the number of its pivots. Conditions: none. exact: Same, Points. halfspace: fits. Conditions: lengths far below any machine's. Counting by directions over lists: what both texts' Count return; bounds. Conditions: none. halfspace: Count. Conditions: numbers of at most 10^10 digits. certify: Halfspace. Conditions: numbers of at most 10^10 digits. reference 23: Minus. Conditions: at most 10^6 numbers of at most 2^36 digits. reference 25: From. Conditions: at most 1000 rows and columns. -/
import Derived.Test.YtjbhcniiioepgaaGreatDpF
import Derived.BigRegion
import Derived.WalkMore
namespace Go.Lin
theorem RE.cast {n c : Nat} {f g : F2} {a b : Rat} (h : RE n c f g a) (e : a = b) : RE n c f g b := e ▸ h
theorem RE.then_ {n c : Nat} {f g h : F2} {a b d : Rat} (h1 : RE n c f g a) (h2 : RE n c g h b) (e : a * b = d) : RE n c f h d := e ▸ h1.trans h2
/-- Multiples of one row are added to all others. -/
theorem RE.addmany {n c : Nat} {f g : F2} (k : Nat) (hk : k < n) (a : Nat → Rat) (h1 : ∀ i, i < n → i ≠ k → ∀ j, j < c → g i j = f i j + a i * f k j) (h2 : ∀ j, j < c → g k j = f k j) : RE n c f g 1 := by
  have key : ∀ t, t ≤ n → RE n c f (fun i j => if i < t then g i j else f i j) 1 := by
    intro t
    induction t with
    | zero => intro _; exact .same fun i _ j _ => by simp
    | succ t ih =>
      intro ht
      refine (ih (by omega)).then_ (b := 1) ?_ (by grind)
      by_cases e : t = k
      · subst e
        refine .same fun i hi j hj => ?_
        by_cases a : i < t
        · simp [a, show i < t + 1 by omega]
        · by_cases b : i = t
          · subst b; simp [h2 j hj]
          · simp [a, show ¬ i < t + 1 by omega]
      · refine .add t k (a t) (by omega) hk e (fun j hj => ?_) (fun r hr hrt j hj => ?_)
        · have h3 := h1 t (by omega) e j hj
          by_cases b : k < t
          · simp [b, h3, h2 j hj]
          · simp [b, h3]
        · by_cases a : r < t
          · simp [a, show r < t + 1 by omega]
          · simp [a, show ¬ r < t + 1 by omega]
  refine (key n (Nat.le_refl _)).then_ (.same fun i hi j hj => ?_) (by grind)
  simp [hi]

/-- A row echelon form of the first k columns. -/
structure Ech (n k : Nat) (f : F2) (p : List Nat) : Prop where
  le : p.length ≤ n
  lt : ∀ i (hi : i < p.length), p[i] < k
  inc : ∀ i k (hik : i < k) (hk : k < p.length), p[i] < p[k]
  left : ∀ i (hi : i < p.length), ∀ j, j < p[i] → f i j = 0
  piv : ∀ i (hi : i < p.length), f i p[i] ≠ 0
  below : ∀ i, p.length ≤ i → i < n → ∀ j, j < k → f i j = 0

theorem Ech.nil (n : Nat) (f : F2) : Ech n 0 f [] := ⟨by simp, by simp, by simp, by simp, by simp, by intros; omega⟩
theorem Ech.skip {n k : Nat} {f : F2} {p : List Nat} (h : Ech n k f p) (hz : ∀ i, p.length ≤ i → i < n → f i k = 0) : Ech n (k + 1) f p :=
  ⟨h.le, fun i hi => Nat.lt_succ_of_lt (h.lt i hi), h.inc, h.left, h.piv, fun i hi hn j hj => by
    by_cases e : j = k
    · subst e; exact hz i hi hn
    · exact h.below i hi hn j (by omega)⟩
theorem push_lt {p : List Nat} {k : Nat} (h : ∀ i (hi : i < p.length), p[i] < k) (i : Nat) (hi : i < (p ++ [k]).length) : (p ++ [k])[i] < k + 1 := by
  rw [List.getElem_append]; split
  · have := h i (by assumption); omega
  · simp
theorem push_inc {p : List Nat} {c : Nat} (h : ∀ i (hi : i < p.length), p[i] < c) (h2 : ∀ i k (hik : i < k) (hk : k < p.length), p[i] < p[k]) (i k : Nat) (hik : i < k) (hk : k < (p ++ [c]).length) : (p ++ [c])[i] < (p ++ [c])[k] := by
  simp at hk
  rw [List.getElem_append, List.getElem_append]
  by_cases a : k < p.length
  · simp [a, show i < p.length by omega]; exact h2 i k hik a
  · simp [a, show i < p.length by omega]; exact h i (by omega)
theorem Ech.push {n k : Nat} {f g : F2} {p : List Nat} (h : Ech n k f p) (hp : p.length < n) (h0 : ∀ i, i < p.length → ∀ j, g i j = f i j)
    (hz : ∀ i, p.length ≤ i → i < n → ∀ j, j < k → g i j = 0) (hne : g p.length k ≠ 0) (hb : ∀ i, p.length < i → i < n → g i k = 0) : Ech n (k + 1) g (p ++ [k]) := by
  refine ⟨by simp; omega, push_lt h.lt, push_inc h.lt h.inc, fun i hi j hj => ?_, fun i hi => ?_, fun i hi hn j hj => ?_⟩
  · simp at hi
    rw [List.getElem_append] at hj
    by_cases a : i < p.length
    · simp [a] at hj; rw [h0 i a]; exact h.left i a j hj
    · simp [a] at hj; exact hz i (by omega) (by omega) j hj
  · simp at hi
    rw [List.getElem_append]
    by_cases a : i < p.length
    · simp only [a, dite_true]; rw [h0 i a]; exact h.piv i a
    · obtain rfl : i = p.length := by omega
      simpa using hne
  · simp at hi
    by_cases e : j = k
    · subst e; exact hb i (by omega) hn
    · exact hz i (by omega) hn j (by omega)

/-- The first t pivots are 1, and alone in their columns. -/
structure Red (n t : Nat) (f : F2) (p : List Nat) : Prop where
  one : ∀ i (hi : i < p.length), i < t → f i p[i] = 1
  zero : ∀ k (hk : k < p.length), k < t → ∀ i, i < n → i ≠ k → f i p[k] = 0
theorem Ech.rref {n c : Nat} {f : F2} {p : List Nat} (h : Ech n c f p) (hr : Red n p.length f p) : Rref n c f p :=
  ⟨h.le, h.lt, h.inc, h.left, fun i hi => hr.one i hi hi, fun k hk => hr.zero k hk hk, h.below⟩
/-- Entries below a pivot are 0. -/
theorem Ech.under {n c : Nat} {f : F2} {p : List Nat} (h : Ech n c f p) (k : Nat) (hk : k < p.length) (i : Nat) (hi : i < n) (hki : k < i) : f i p[k] = 0 := by
  by_cases a : i < p.length
  · exact h.left i a _ (h.inc k i hki a)
  · exact h.below i (by omega) hi _ (h.lt k hk)
/-- One pivot more: its row is divided, and taken from those above. -/
theorem Red.step {n c t : Nat} {f g : F2} {p : List Nat} (h : Ech n c f p) (hr : Red n t f p) (ht : t < p.length) 
    (h1 : ∀ j, g t j = f t j / f t p[t]) (h2 : ∀ i, i < t → ∀ j, g i j = f i j - f i p[t] * g t j) (h3 : ∀ i, t < i → ∀ j, g i j = f i j) : Ech n c g p ∧ Red n (t + 1) g p := by
  have hpv := h.piv t ht
  have hz : ∀ j, j < p[t] → g t j = 0 := fun j hj => by rw [h1, h.left t ht j hj]; grind
  have hone : g t p[t] = 1 := by rw [h1]; grind
  refine ⟨⟨h.le, h.lt, h.inc, fun i hi j hj => ?_, fun i hi => ?_, fun i hi hn j hj => ?_⟩, ⟨fun i hi hit => ?_, fun k hk hkt i hi hik => ?_⟩⟩
  · rcases Nat.lt_trichotomy i t with a | a | a
    · rw [h2 i a, h.left i hi j hj, hz j (by have := h.inc i t a ht; omega)]; grind
    · subst a; exact hz j hj
    · rw [h3 i a]; exact h.left i hi j hj
  · rcases Nat.lt_trichotomy i t with a | a | a
    · rw [h2 i a, hz _ (h.inc i t a ht)]; have := h.piv i hi; grind
    · subst a; rw [hone]; grind
    · rw [h3 i a]; exact h.piv i hi
  · rw [h3 i (by omega)]; exact h.below i hi hn j hj
  · rcases Nat.lt_trichotomy i t with a | a | a
    · rw [h2 i a, hz _ (h.inc i t a ht), hr.one i hi a]; grind
    · subst a; exact hone
    · omega
  · rcases Nat.lt_trichotomy k t with b | b | b
    · have hzk : g t p[k] = 0 := hz _ (h.inc k t b ht)
      rcases Nat.lt_trichotomy i t with a | a | a
      · rw [h2 i a, hzk, hr.zero k hk b i hi hik]; grind
      · subst a; exact hzk
      · rw [h3 i a]; exact hr.zero k hk b i hi hik
    · subst b
      rcases Nat.lt_trichotomy i k with a | a | a
      · rw [h2 i a, hone]; grind
      · omega
      · rw [h3 i a]; exact h.under k hk i hi a
    · omega

/-- The reference's reduced form grows by a column without a pivot. -/
theorem Rref.skip {n k : Nat} {f : F2} {p : List Nat} (h : Rref n k f p) (hz : ∀ i, p.length ≤ i → i < n → f i k = 0) : Rref n (k + 1) f p :=
  ⟨h.le, fun i hi => Nat.lt_succ_of_lt (h.lt i hi), h.inc, h.left, h.one, h.zero, fun i hi hn j hj => by
    by_cases e : j = k
    · subst e; exact hz i hi hn
    · exact h.below i hi hn j (by omega)⟩
theorem Rref.nil (n : Nat) (f : F2) : Rref n 0 f [] := ⟨by simp, by simp, by simp, by simp, by simp, by simp, by intros; omega⟩
/-- .. and by one with a pivot: f has the pivot's row at its place. -/
theorem Rref.push {n k : Nat} {f g : F2} {p : List Nat} (h : Rref n k f p) (hp : p.length < n) (hne : f p.length k ≠ 0)
    (h1 : ∀ j, g p.length j = f p.length j * (1 / f p.length k)) (h2 : ∀ i, i < n → i ≠ p.length → ∀ j, g i j = f i j + g p.length j * - f i k) : Rref n (k + 1) g (p ++ [k]) := by
  have hz : ∀ j, j < k → g p.length j = 0 := fun j hj => by rw [h1, h.below _ (Nat.le_refl _) hp j hj]; grind
  have hone : g p.length k = 1 := by rw [h1]; grind
  have hk0 : ∀ i, i < n → i ≠ p.length → g i k = 0 := fun i hi e => by rw [h2 i hi e, hone]; grind
  have hs : ∀ i, i < n → ∀ j, j < k → g i j = f i j := fun i hi j hj => by
    by_cases e : i = p.length
    · subst e; rw [hz j hj, h.below _ (Nat.le_refl _) hp j hj]
    · rw [h2 i hi e, hz j hj]; grind
  refine ⟨by simp; omega, push_lt h.lt, push_inc h.lt h.inc, fun i hi j hj => ?_, fun i hi => ?_, fun q hq i hi hiq => ?_, fun i hi hn j hj => ?_⟩
  · simp at hi
    rw [List.getElem_append] at hj
    by_cases a : i < p.length
    · simp [a] at hj; rw [hs i (by omega) j (by have := h.lt i a; omega)]; exact h.left i a j hj
    · simp [a] at hj; obtain rfl : i = p.length := by omega
      exact hz j hj
  · simp at hi
    rw [List.getElem_append]
    by_cases a : i < p.length
    · simp only [a, dite_true]; rw [hs i (by omega) _ (h.lt i a)]; exact h.one i a
    · obtain rfl : i = p.length := by omega
      simpa using hone
  · simp at hq
    rw [List.getElem_append]
    by_cases a : q < p.length
    · simp only [a, dite_true]; rw [hs i hi _ (h.lt q a)]; exact h.zero q a i hi hiq
    · obtain rfl : q = p.length := by omega
      simpa using hk0 i hi hiq
  · simp at hi
    by_cases e : j = k
    · subst e; exact hk0 i hn (by omega)
    · rw [hs i hn j (by omega)]; exact h.below i (by omega) hn j (by omega)
end Go.Lin


namespace Go.Lin
abbrev Mat := List (List Rat)
def ent (m : Mat) : F2 := fun i j => (m.getD i []).getD j 0
def Shp (n c : Nat) (m : Mat) : Prop := m.length = n ∧ ∀ r ∈ m, r.length = c
theorem Shp.row {n c : Nat} {m : Mat} (h : Shp n c m) {i : Nat} (hi : i < n) : (m.getD i []).length = c := by
  have : i < m.length := by rw [h.1]; exact hi
  simp [List.getD_eq_getElem?_getD, this, h.2]
theorem ent_out {n c : Nat} {m : Mat} (h : Shp n c m) {i j : Nat} (hij : n ≤ i ∨ c ≤ j) : ent m i j = 0 := by
  unfold ent
  by_cases hi : i < n
  · have := h.row hi
    rw [List.getD_eq_getElem?_getD, List.getElem?_eq_none (by omega)]; rfl
  · have := h.1
    rw [List.getD_eq_getElem?_getD (l := m), List.getElem?_eq_none (by omega)]; simp
theorem Shp.ext {n c : Nat} {m m' : Mat} (h : Shp n c m) (h' : Shp n c m') (he : Eqm n c (ent m) (ent m')) : m = m' := by
  refine List.ext_getElem (h.1.trans h'.1.symm) fun i h1 h2 => ?_
  have hl1 := h.2 _ (List.getElem_mem h1)
  have hl2 := h'.2 _ (List.getElem_mem h2)
  refine List.ext_getElem (hl1.trans hl2.symm) fun j h3 h4 => ?_
  have := he i (by rw [← h.1]; exact h1) j (by omega)
  simpa [ent, List.getD_eq_getElem?_getD, h1, h2, h3, h4] using this
theorem Shp.set {n c : Nat} {m : Mat} (h : Shp n c m) (i : Nat) {r : List Rat} (hr : r.length = c) : Shp n c (m.set i r) := by
  refine ⟨by simp [h.1], fun x hx => ?_⟩
  rcases List.mem_or_eq_of_mem_set hx with a | a
  · exact h.2 _ a
  · rw [a]; exact hr
theorem ent_set {m : Mat} {i : Nat} {r : List Rat} (hi : i < m.length) (k j : Nat) : ent (m.set i r) k j = if k = i then r.getD j 0 else ent m k j := by
  unfold ent
  simp only [List.getD_eq_getElem?_getD, List.getElem?_set]
  by_cases e : k = i
  · subst e; simp [hi]
  · simp [e, Ne.symm e]
/-- Each row by its number. -/
def rows (m : Mat) (f : Nat → List Rat → List Rat) : Mat := m.mapIdx f
theorem Shp.rows {n c : Nat} {m : Mat} (h : Shp n c m) {f : Nat → List Rat → List Rat} (hf : ∀ i, i < n → ∀ r : List Rat, r.length = c → (f i r).length = c) : Shp n c (rows m f) := by
  refine ⟨by simp [Lin.rows, h.1], fun x hx => ?_⟩
  obtain ⟨i, hi, rfl⟩ := List.getElem_of_mem hx
  simp only [Lin.rows, List.length_mapIdx, List.getElem_mapIdx] at hi ⊢
  exact hf i (by rw [← h.1]; exact hi) _ (h.2 _ (List.getElem_mem _))
theorem ent_rows {m : Mat} {f : Nat → List Rat → List Rat} {i : Nat} (hi : i < m.length) (j : Nat) : ent (rows m f) i j = (f i (m.getD i [])).getD j 0 := by
  simp [ent, rows, List.getD_eq_getElem?_getD, hi]

def swapL (m : Mat) (i k : Nat) : Mat := (m.set i (m.getD k [])).set k (m.getD i [])
theorem Shp.swap {n c : Nat} {m : Mat} (h : Shp n c m) {i k : Nat} (hi : i < n) (hk : k < n) : Shp n c (swapL m i k) := (h.set i (h.row hk)).set k (h.row hi)
theorem ent_swap {n c : Nat} {m : Mat} (h : Shp n c m) {i k : Nat} (hi : i < n) (hk : k < n) (r j : Nat) : ent (swapL m i k) r j = if r = k then ent m i j else if r = i then ent m k j else ent m r j := by
  unfold swapL
  rw [ent_set (by simp [h.1, hk]), ent_set (by simp [h.1, hi])]; rfl
theorem swapL_self (m : Mat) (i : Nat) (hi : i < m.length) : swapL m i i = m := by
  unfold swapL
  simp [List.getD_eq_getElem?_getD, hi]
theorem re_swap {n c : Nat} {m : Mat} (h : Shp n c m) {i k : Nat} (hi : i < n) (hk : k < n) (hik : i ≠ k) : RE n c (ent m) (ent (swapL m i k)) (-1) :=
  .swap i k hi hk hik (fun j _ => by rw [ent_swap h hi hk]; simp [hik]) (fun j _ => by rw [ent_swap h hi hk]; simp) (fun r _ a b j _ => by rw [ent_swap h hi hk]; simp [a, b])

/-- A multiple of a row taken from another one so that a column becomes 0. -/
def elimL (row piv : List Rat) (col : Nat) : List Rat := List.zipWith (fun a x => a - (row.getD col 0 / piv.getD col 0) * x) row piv
theorem elimL_len (row piv : List Rat) (col : Nat) (h : row.length = piv.length) : (elimL row piv col).length = piv.length := by simp [elimL, h]
theorem elimL_get (row piv : List Rat) (col j : Nat) (h : row.length = piv.length) : (elimL row piv col).getD j 0 = row.getD j 0 - (row.getD col 0 / piv.getD col 0) * piv.getD j 0 := by
  unfold elimL
  simp only [List.getD_eq_getElem?_getD, List.getElem?_zipWith]
  by_cases hj : j < row.length
  · simp [hj, show j < piv.length by omega]
  · simp [show ¬ j < row.length by omega, show ¬ j < piv.length by omega]; grind
/-- The state of the program's elimination: rows, pivots, were rows exchanged an odd number of times. -/
abbrev St := Mat × List Nat × Bool
def clear (m : Mat) (t col : Nat) (s : Nat) : Mat := rows m fun i r => if t < i ∧ i < t + 1 + s then elimL r (m.getD t []) col else r
noncomputable def nzAt (m : Mat) (t col : Nat) : Option Nat := (m.drop t).findIdx? fun r => decide (r.getD col 0 ≠ 0)
noncomputable def eStep (s : St) (col : Nat) : St :=
  if s.2.1.length = s.1.length then s else
  match nzAt s.1 s.2.1.length col with
  | none => s
  | some k => (clear (swapL s.1 s.2.1.length (s.2.1.length + k)) s.2.1.length col s.1.length, s.2.1 ++ [col], s.2.2 != decide (k ≠ 0))
noncomputable def eN (m : Mat) : Nat → St
  | 0 => (m, [], false)
  | k + 1 => eStep (eN m k) k

theorem Shp.clear {n c : Nat} {m : Mat} (h : Shp n c m) {t : Nat} (ht : t < n) (col s : Nat) : Shp n c (clear m t col s) :=
  h.rows fun i hi r hr => by
    split
    · rw [elimL_len _ _ _ (by rw [hr, h.row ht]), h.row ht]
    · exact hr
theorem ent_clear {n c : Nat} {m : Mat} (h : Shp n c m) {t : Nat} (ht : t < n) (col s i j : Nat) : ent (clear m t col s) i j = if t < i ∧ i < t + 1 + s ∧ i < n then ent m i j - (ent m i col / ent m t col) * ent m t j else ent m i j := by
  by_cases hi : i < n
  · unfold Lin.clear
    rw [ent_rows (by rw [h.1]; exact hi)]
    by_cases a : t < i ∧ i < t + 1 + s
    · simp only [a, and_self, if_true, hi]
      rw [elimL_get _ _ _ _ (by rw [h.row hi, h.row ht])]; rfl
    · rw [if_neg a, if_neg (fun b => a ⟨b.1, b.2.1⟩)]; rfl
  · rw [ent_out (h.clear ht col s) (.inl (by omega)), if_neg (by omega), ent_out h (.inl (by omega))]
theorem re_clear {n c : Nat} {m : Mat} (h : Shp n c m) {t : Nat} (ht : t < n) (col s : Nat) : RE n c (ent m) (ent (clear m t col s)) 1 :=
  .addmany t ht (fun i => if t < i ∧ i < t + 1 + s ∧ i < n then - (ent m i col / ent m t col) else 0)
    (fun i hi e j hj => by rw [ent_clear h ht]; split <;> grind) (fun j hj => by rw [ent_clear h ht]; simp)

theorem nzAt_none {m : Mat} {t col : Nat} (h : nzAt m t col = none) (i : Nat) (hi : t ≤ i) : ent m i col = 0 := by
  unfold nzAt at h
  rw [List.findIdx?_eq_none_iff] at h
  by_cases a : i < m.length
  · have := h (m[i]) (by rw [List.mem_drop_iff_getElem]; exact ⟨i - t, by omega, by congr 1; omega⟩)
    unfold ent; simp only [List.getD_eq_getElem?_getD, a, getElem?_pos, Option.getD_some] at this ⊢
    simpa using this
  · unfold ent; rw [List.getD_eq_getElem?_getD (l := m), List.getElem?_eq_none (by omega)]; simp
theorem nzAt_some {m : Mat} {t col k : Nat} (h : nzAt m t col = some k) : t + k < m.length ∧ ent m (t + k) col ≠ 0 := by
  unfold nzAt at h
  rw [List.findIdx?_eq_some_iff_getElem] at h
  obtain ⟨h1, h2, _⟩ := h
  simp at h1
  refine ⟨by omega, ?_⟩
  unfold ent
  simp only [List.getElem_drop] at h2
  have a : t + k < m.length := by omega
  simp only [List.getD_eq_getElem?_getD, a, getElem?_pos, Option.getD_some] at h2 ⊢
  simpa using h2

/-- What the program's elimination keeps. -/
structure EOk (n c k : Nat) (m : Mat) (s : St) : Prop where
  shp : Shp n c s.1
  ech : Ech n k (ent s.1) s.2.1
  re : RE n c (ent m) (ent s.1) (if s.2.2 then -1 else 1)
theorem EOk.zero {n c : Nat} {m : Mat} (h : Shp n c m) : EOk n c 0 m (m, [], false) := ⟨h, Ech.nil _ _, .same fun _ _ _ _ => rfl⟩
theorem EOk.step {n c k : Nat} {m : Mat} {s : St} (h : EOk n c k m s) : EOk n c (k + 1) m (eStep s k) := by
  obtain ⟨M, p, odd⟩ := s
  have hs : Shp n c M := h.shp
  have he : Ech n k (ent M) p := h.ech
  have hr : RE n c (ent m) (ent M) (if odd then -1 else 1) := h.re
  have hl := hs.1
  unfold eStep
  dsimp only
  split
  · rename_i e
    exact ⟨hs, he.skip fun i hi hn => by omega, hr⟩
  · rename_i e
    split
    · rename_i hz
      exact ⟨hs, he.skip fun i hi _ => nzAt_none hz i hi, hr⟩
    · rename_i q hz
      obtain ⟨h1, h2⟩ := nzAt_some hz
      have hp : p.length < n := by have := he.le; omega
      have hpq : p.length + q < n := by omega
      have hs2 := hs.swap hp hpq
      have hes := fun i j => ent_swap hs hp hpq i j
      have hec := fun i j => ent_clear hs2 hp k M.length i j
      have hpiv : ent (swapL M p.length (p.length + q)) p.length k ≠ 0 := by
        rw [hes]; by_cases b : q = 0
        · subst b; simpa using h2
        · simp [b]; exact h2
      refine ⟨hs2.clear hp _ _, he.push hp (fun i hi j => ?_) (fun i hi hn j hj => ?_) ?_ (fun i hi hn => ?_), ?_⟩
      · rw [hec, if_neg (by omega), hes, if_neg (by omega), if_neg (by omega)]
      · have hz : ∀ i, p.length ≤ i → i < n → ent (swapL M p.length (p.length + q)) i j = 0 := fun i hi hn => by
          rw [hes]; split
          · exact he.below _ (by omega) hp j hj
          · split
            · exact he.below _ (by omega) hpq j hj
            · exact he.below _ hi hn j hj
        rw [hec]; split
        · rw [hz i hi hn, hz p.length (Nat.le_refl _) hp]; grind
        · exact hz i hi hn
      · rw [hec, if_neg (by omega)]; exact hpiv
      · rw [hec, if_pos ⟨hi, by omega, hn⟩]; grind
      · have hc := re_clear hs2 hp k M.length
        by_cases b : q = 0
        · subst b
          rw [Nat.add_zero, swapL_self M _ (by omega)] at hc ⊢
          exact hr.then_ hc (by cases odd <;> simp)
        · exact hr.then_ ((re_swap hs hp hpq (by omega)).then_ hc rfl) (by cases odd <;> simp [b]; grind)
theorem eN_ok {n c : Nat} {m : Mat} (h : Shp n c m) (k : Nat) : EOk n c k m (eN m k) := by
  induction k with
  | zero => exact EOk.zero h
  | succ k ih => exact ih.step
/-- The program's second phase: the pivot's row i is divided, and taken from those above. -/
def divL (m : Mat) (i col : Nat) : Mat := m.set i ((m.getD i []).map (· / ent m i col))
def above (m : Mat) (i col s : Nat) : Mat := rows m fun k r => if k < i ∧ k < s then elimL r (m.getD i []) col else r
def dStep (m : Mat) (i col : Nat) : Mat := above (divL m i col) i col i
theorem getD_map_div (r : List Rat) (a : Rat) (j : Nat) : (r.map (· / a)).getD j 0 = r.getD j 0 / a := by
  simp only [List.getD_eq_getElem?_getD, List.getElem?_map]
  cases r[j]? with
  | none => simp; grind
  | some x => simp
theorem Shp.divL {n c : Nat} {m : Mat} (h : Shp n c m) {i : Nat} (hi : i < n) (col : Nat) : Shp n c (divL m i col) := h.set i (by rw [List.length_map]; exact h.row hi)
theorem ent_divL {n c : Nat} {m : Mat} (h : Shp n c m) {i : Nat} (hi : i < n) (col k j : Nat) : ent (divL m i col) k j = if k = i then ent m i j / ent m i col else ent m k j := by
  unfold divL
  rw [ent_set (by rw [h.1]; exact hi), getD_map_div]; rfl
theorem Shp.above {n c : Nat} {m : Mat} (h : Shp n c m) {t : Nat} (ht : t < n) (col s : Nat) : Shp n c (above m t col s) :=
  h.rows fun i hi r hr => by
    split
    · rw [elimL_len _ _ _ (by rw [hr, h.row ht]), h.row ht]
    · exact hr
theorem ent_above {n c : Nat} {m : Mat} (h : Shp n c m) {t : Nat} (ht : t < n) (col s i j : Nat) : ent (above m t col s) i j = if i < t ∧ i < s then ent m i j - (ent m i col / ent m t col) * ent m t j else ent m i j := by
  by_cases hi : i < n
  · unfold Lin.above
    rw [ent_rows (by rw [h.1]; exact hi)]
    by_cases a : i < t ∧ i < s
    · simp only [a, and_self, if_true]
      rw [elimL_get _ _ _ _ (by rw [h.row hi, h.row ht])]; rfl
    · rw [if_neg a, if_neg a]; rfl
  · rw [ent_out (h.above ht col s) (.inl (by omega)), if_neg (by omega), ent_out h (.inl (by omega))]
theorem re_above {n c : Nat} {m : Mat} (h : Shp n c m) {t : Nat} (ht : t < n) (col s : Nat) : RE n c (ent m) (ent (above m t col s)) 1 :=
  .addmany t ht (fun i => if i < t ∧ i < s then - (ent m i col / ent m t col) else 0)
    (fun i hi e j hj => by rw [ent_above h ht]; split <;> grind) (fun j hj => by rw [ent_above h ht]; simp)
theorem re_divL {n c : Nat} {m : Mat} (h : Shp n c m) {i : Nat} (hi : i < n) (col : Nat) (hne : ent m i col ≠ 0) : RE n c (ent m) (ent (divL m i col)) (1 / ent m i col) :=
  .scale i _ hi (by intro e; grind) (fun j _ => by rw [ent_divL h hi]; simp; grind) (fun r _ hr j _ => by rw [ent_divL h hi, if_neg hr])

noncomputable def dN (m : Mat) (p : List Nat) : Nat → Mat
  | 0 => m
  | t + 1 => dStep (dN m p t) t (p.getD t 0)
/-- What the second phase keeps. -/
structure DOk (n c t : Nat) (m : Mat) (p : List Nat) (s : Mat) : Prop where
  shp : Shp n c s
  ech : Ech n c (ent s) p
  red : Red n t (ent s) p
  re : ∃ d, RE n c (ent m) (ent s) d
theorem DOk.step {n c t : Nat} {m : Mat} {p : List Nat} {s : Mat} (h : DOk n c t m p s) (ht : t < p.length) : DOk n c (t + 1) m p (dStep s t (p.getD t 0)) := by
  have htn : t < n := Nat.lt_of_lt_of_le ht h.ech.le
  have hp : p.getD t 0 = p[t] := by simp [List.getD_eq_getElem?_getD, ht]
  rw [hp]
  have hd := h.shp.divL htn p[t]
  have hpv := h.ech.piv t ht
  have e1 := fun k j => ent_divL h.shp htn p[t] k j
  have e2 := fun i j => ent_above hd htn p[t] t i j
  obtain ⟨d, hre⟩ := h.re
  have hone : ent (divL s t p[t]) t p[t] = 1 := by rw [e1]; simp; grind
  have hrow : ∀ j, ent (dStep s t p[t]) t j = ent s t j / ent s t p[t] := fun j => by
    unfold dStep; rw [e2, if_neg (by omega), e1]; simp
  have := Red.step (g := ent (dStep s t p[t])) h.ech h.red ht hrow (fun i hi j => by
      rw [hrow]; unfold dStep; rw [e2, if_pos ⟨hi, hi⟩, hone, e1, e1, e1, if_neg (by omega), if_neg (by omega), if_pos rfl]; grind) (fun i hi j => by
      unfold dStep; rw [e2, if_neg (by omega), e1, if_neg (by omega)])
  exact ⟨hd.above htn _ _, this.1, this.2, _, hre.trans ((re_divL h.shp htn _ hpv).trans (re_above hd htn _ _))⟩
theorem dN_ok {n c : Nat} {m : Mat} {p : List Nat} (h : Shp n c m) (he : Ech n c (ent m) p) (t : Nat) (ht : t ≤ p.length) : DOk n c t m p (dN m p t) := by
  induction t with
  | zero => exact ⟨h, he, ⟨by intros; omega, by intros; omega⟩, 1, .same fun _ _ _ _ => rfl⟩
  | succ t ih => exact (ih (by omega)).step (by omega)

/-- The program's reduced form. -/
noncomputable def redP (m : Mat) (c : Nat) : Mat × List Nat := (dN (eN m c).1 (eN m c).2.1 (eN m c).2.1.length, (eN m c).2.1)
theorem redP_ok {n c : Nat} {m : Mat} (h : Shp n c m) : Shp n c (redP m c).1 ∧ Rref n c (ent (redP m c).1) (redP m c).2 ∧ ∃ d, RE n c (ent m) (ent (redP m c).1) d := by
  have h1 := eN_ok h c
  have h2 := dN_ok h1.shp h1.ech _ (Nat.le_refl _)
  obtain ⟨d, h3⟩ := h2.re
  exact ⟨h2.shp, h2.ech.rref h2.red, _, h1.re.trans h3⟩

/-- The reference's elimination: rows, pivots, factor. -/
abbrev Sr := Mat × List Nat × Rat
def pv (m : Mat) (t col : Nat) : Mat := m.set t ((m.getD t []).map (· * (1 / ent m t col)))
def out (m : Mat) (t col : Nat) (s : Nat) : Mat := rows m fun i r => if i ≠ t ∧ i < s then List.zipWith (· + ·) r ((m.getD t []).map (· * - r.getD col 0)) else r
noncomputable def rStep (s : Sr) (col : Nat) : Sr :=
  match nzAt s.1 s.2.1.length col with
  | none => s
  | some k => (out (pv (swapL s.1 (s.2.1.length + k) s.2.1.length) s.2.1.length col) s.2.1.length col s.1.length, s.2.1 ++ [col], (if k = 0 then s.2.2 else - s.2.2) * ent (swapL s.1 (s.2.1.length + k) s.2.1.length) s.2.1.length col)
theorem getD_map_mul (r : List Rat) (a : Rat) (j : Nat) : (r.map (· * a)).getD j 0 = r.getD j 0 * a := by
  simp only [List.getD_eq_getElem?_getD, List.getElem?_map]
  cases r[j]? with
  | none => simp
  | some x => simp
theorem zip_add (a b : List Rat) (h : a.length = b.length) (j : Nat) : (List.zipWith (· + ·) a b).getD j 0 = a.getD j 0 + b.getD j 0 := by
  simp only [List.getD_eq_getElem?_getD, List.getElem?_zipWith]
  by_cases hj : j < a.length
  · simp [hj, show j < b.length by omega]
  · simp [show ¬ j < a.length by omega, show ¬ j < b.length by omega]; grind
theorem Shp.pv {n c : Nat} {m : Mat} (h : Shp n c m) {i : Nat} (hi : i < n) (col : Nat) : Shp n c (pv m i col) := h.set i (by rw [List.length_map]; exact h.row hi)
theorem ent_pv {n c : Nat} {m : Mat} (h : Shp n c m) {i : Nat} (hi : i < n) (col k j : Nat) : ent (pv m i col) k j = if k = i then ent m i j * (1 / ent m i col) else ent m k j := by
  unfold pv
  rw [ent_set (by rw [h.1]; exact hi), getD_map_mul]; rfl
theorem Shp.out {n c : Nat} {m : Mat} (h : Shp n c m) {t : Nat} (ht : t < n) (col s : Nat) : Shp n c (out m t col s) :=
  h.rows fun i hi r hr => by
    split
    · rw [List.length_zipWith, List.length_map, hr, h.row ht]; omega
    · exact hr
theorem ent_outm {n c : Nat} {m : Mat} (h : Shp n c m) {t : Nat} (ht : t < n) (col s i j : Nat) : ent (out m t col s) i j = if i ≠ t ∧ i < s ∧ i < n then ent m i j + ent m t j * - ent m i col else ent m i j := by
  by_cases hi : i < n
  · unfold Lin.out
    rw [ent_rows (by rw [h.1]; exact hi)]
    by_cases a : i ≠ t ∧ i < s
    · rw [if_pos a, if_pos ⟨a.1, a.2, hi⟩, zip_add _ _ (by rw [List.length_map, h.row hi, h.row ht]), getD_map_mul]; rfl
    · rw [if_neg a, if_neg (fun b => a ⟨b.1, b.2.1⟩)]; rfl
  · rw [ent_out (h.out ht col s) (.inl (by omega)), if_neg (by omega), ent_out h (.inl (by omega))]
structure ROk (n c k : Nat) (m : Mat) (s : Sr) : Prop where
  shp : Shp n c s.1
  ref : Rref n k (ent s.1) s.2.1
  re : ∃ d, RE n c (ent m) (ent s.1) d ∧ s.2.2 * d = 1
theorem ROk.step {n c k : Nat} {m : Mat} {s : Sr} (h : ROk n c k m s) : ROk n c (k + 1) m (rStep s k) := by
  obtain ⟨M, p, fac⟩ := s
  have hs : Shp n c M := h.shp
  have he : Rref n k (ent M) p := h.ref
  obtain ⟨d, hr, hd⟩ : ∃ d, RE n c (ent m) (ent M) d ∧ fac * d = 1 := h.re
  have hl := hs.1
  unfold rStep
  dsimp only
  split
  · rename_i hz
    exact ⟨hs, he.skip fun i hi _ => nzAt_none hz i hi, d, hr, hd⟩
  · rename_i q hz
    obtain ⟨h1, h2⟩ := nzAt_some hz
    have hp : p.length < n := by omega
    have hpq : p.length + q < n := by omega
    have hs2 := hs.swap hpq hp
    have hes := fun i j => ent_swap hs hpq hp i j
    have hs3 := hs2.pv hp k
    have hep := fun i j => ent_pv hs2 hp k i j
    have heo := fun i j => ent_outm hs3 hp k M.length i j
    have hpiv : ent (swapL M (p.length + q) p.length) p.length k ≠ 0 := by rw [hes, if_pos rfl]; exact h2
    have hsw : Rref n k (ent (swapL M (p.length + q) p.length)) p := by
      have hsm : ∀ i, i < p.length → ∀ j, ent (swapL M (p.length + q) p.length) i j = ent M i j := fun i hi j => by
        rw [hes, if_neg (by omega), if_neg (by omega)]
      have hz0 : ∀ i, p.length ≤ i → i < n → ∀ j, j < k → ent (swapL M (p.length + q) p.length) i j = 0 := fun i hi hn j hj => by
        rw [hes]; split
        · exact he.below _ (by omega) hpq j hj
        · split
          · exact he.below _ (by omega) hp j hj
          · exact he.below _ hi hn j hj
      refine ⟨he.le, he.lt, he.inc, fun i hi j hj => by rw [hsm i hi]; exact he.left i hi j hj, fun i hi => by rw [hsm i hi]; exact he.one i hi, fun t ht i hi hit => ?_, hz0⟩
      by_cases a : i < p.length
      · rw [hsm i a]; exact he.zero t ht i hi hit
      · exact hz0 i (by omega) hi _ (he.lt t ht)
    have hrow : ∀ j, ent (out (pv (swapL M (p.length + q) p.length) p.length k) p.length k M.length) p.length j = ent (swapL M (p.length + q) p.length) p.length j * (1 / ent (swapL M (p.length + q) p.length) p.length k) := fun j => by
      rw [heo, if_neg (by omega), hep, if_pos rfl]
    refine ⟨hs3.out hp _ _, hsw.push hp hpiv hrow (fun i hi hne j => ?_), ?_⟩
    · rw [hrow, heo, if_pos ⟨hne, by omega, hi⟩, hep, hep, hep, if_neg hne, if_neg hne, if_pos rfl]
    · have hre3 : RE n c (ent (swapL M (p.length + q) p.length)) (ent (pv (swapL M (p.length + q) p.length) p.length k)) (1 / ent (swapL M (p.length + q) p.length) p.length k) :=
        .scale p.length _ hp (by intro e; grind) (fun j _ => by rw [hep]; simp; grind) (fun r _ hr j _ => by rw [hep, if_neg hr])
      have hre4 : RE n c (ent (pv (swapL M (p.length + q) p.length) p.length k)) (ent (out (pv (swapL M (p.length + q) p.length) p.length k) p.length k M.length)) 1 :=
        .addmany p.length hp (fun i => if i ≠ p.length ∧ i < M.length ∧ i < n then - ent (pv (swapL M (p.length + q) p.length) p.length k) i k else 0)
          (fun i hi e j hj => by rw [heo]; split <;> grind) (fun j hj => by rw [heo]; simp)
      by_cases b : q = 0
      · subst b
        rw [Nat.add_zero, swapL_self M _ (by omega)] at hre3 hre4 hpiv ⊢
        exact ⟨_, hr.trans (hre3.trans hre4), by simp; grind⟩
      · exact ⟨_, hr.trans ((re_swap hs hpq hp (by omega)).trans (hre3.trans hre4)), by simp [b]; grind⟩
end Go.Lin


namespace Go.Lin
/-- The product of two matrices. -/
def mul (n : Nat) (f g : F2) : F2 := fun i j => sm n fun k => f i k * g k j
end Go.Lin


namespace Go.Lin
/-- A matrix of a function's values. -/
def ofF (n c : Nat) (f : F2) : Mat := (List.range n).map fun i => (List.range c).map (f i)
theorem shp_ofF (n c : Nat) (f : F2) : Shp n c (ofF n c f) := ⟨by simp [ofF], fun r hr => by
  obtain ⟨i, _, rfl⟩ := List.mem_map.1 hr; simp⟩
theorem ent_ofF (n c : Nat) (f : F2) : Eqm n c (ent (ofF n c f)) f := fun i hi j hj => by simp [ent, ofF, List.getD_eq_getElem?_getD, hi, hj]
theorem RE.congr {n c : Nat} {f f' g : F2} {d : Rat} (h : RE n c f g d) (e : Eqm n c f' f) : RE n c f' g d := (RE.same e).then_ h (by grind)
/-- Any matrix has a reduced form. -/
theorem rref_ex (n c : Nat) (f : F2) : ∃ r p d, Rref n c r p ∧ RE n c f r d := by
  obtain ⟨_, h2, d, h3⟩ := redP_ok (shp_ofF n c f)
  exact ⟨_, _, d, h2, h3.congr fun i hi j hj => (ent_ofF n c f i hi j hj).symm⟩
/-- Row operations on a product are row operations on its first factor. -/
theorem RE.factor {n c r : Nat} {f g : F2} {d : Rat} (h : RE n c f g d) (b : F2) (hf : ∃ a, Eqm n c f (mul r a b)) : ∃ a, Eqm n c g (mul r a b) := by
  induction h with
  | same h => obtain ⟨a, ha⟩ := hf; exact ⟨a, fun i hi j hj => (h i hi j hj).symm.trans (ha i hi j hj)⟩
  | swap i k hi hk hik h1 h2 h3 =>
    obtain ⟨a, ha⟩ := hf
    refine ⟨fun q => if q = i then a k else if q = k then a i else a q, fun q hq j hj => ?_⟩
    by_cases e : q = i
    · subst e; rw [h1 j hj, ha k hk j hj]; simp [mul]
    · by_cases e2 : q = k
      · subst e2; rw [h2 j hj, ha i hi j hj]; simp [mul, e]
      · rw [h3 q hq e e2 j hj, ha q hq j hj]; simp [mul, e, e2]
  | scale i x hi hx h1 h3 =>
    obtain ⟨a, ha⟩ := hf
    refine ⟨fun q => if q = i then fun k => x * a i k else a q, fun q hq j hj => ?_⟩
    by_cases e : q = i
    · subst e; rw [h1 j hj, ha q hq j hj]; simp only [mul, if_true]; rw [← sm_mul]; exact sm_congr fun k _ => by grind
    · rw [h3 q hq e j hj, ha q hq j hj]; simp [mul, e]
  | add i k x hi hk hik h1 h3 =>
    obtain ⟨a, ha⟩ := hf
    refine ⟨fun q => if q = i then fun y => a i y + x * a k y else a q, fun q hq j hj => ?_⟩
    by_cases e : q = i
    · subst e; rw [h1 j hj, ha q hq j hj, ha k hk j hj]; simp only [mul, if_true]; rw [← sm_mul, ← sm_add]; exact sm_congr fun k _ => by grind
    · rw [h3 q hq e j hj, ha q hq j hj]; simp [mul, e]
  | trans _ _ ih1 ih2 => exact ih2 (ih1 hf)
/-- A product over r numbers has at most r pivots. -/
theorem rank_le {n c r : Nat} {f g : F2} {p : List Nat} {d : Rat} (hg : Rref n c g p) (h : RE n c f g d) (a b : F2) (hf : Eqm n c f (mul r a b)) : p.length ≤ r := by
  refine Classical.byContradiction fun hlt => ?_
  obtain ⟨t, ht⟩ := h.factor b ⟨a, hf⟩
  obtain ⟨s, q, e, hs, he⟩ := rref_ex r p.length (fun k i => t i k)
  have hq : ∃ j, j < p.length ∧ j ∉ q := by
    refine Classical.byContradiction fun hno => ?_
    have hall : ∀ j, j < p.length → j ∈ q := fun j hj => Classical.byContradiction fun h => hno ⟨j, hj, h⟩
    have h1 : (List.range p.length).length ≤ q.length := (List.nodup_range).length_le_of_subset fun j hj => hall j (List.mem_range.1 hj)
    rw [List.length_range] at h1
    have := hs.le
    omega
  obtain ⟨j, hj, hjq⟩ := hq
  have h1 := (he.nul _).2 (hs.nv_nul hjq hj)
  have h2 : ∀ x, x < c → sm p.length (fun i => nv s q j i * g i x) = 0 := fun x hx => by
    have e1 : sm p.length (fun i => nv s q j i * g i x) = sm p.length (fun i => sm r fun k => (t i k * nv s q j i) * b k x) := sm_congr fun i hi => by
      have := hg.le
      rw [ht i (by omega) x hx]; unfold mul; rw [← sm_mul]; exact sm_congr fun k _ => by grind
    rw [e1, sm_comm]
    exact sm_zero fun k hk => by
      have := h1 k hk
      rw [sm_congr (g := fun i => b k x * (t i k * nv s q j i)) fun i _ => by grind, sm_mul, this]; grind
  have h3 := h2 p[j] (hg.lt j hj)
  rw [sm_one j hj fun i hi hij => by rw [hg.zero j hj i (by have := hg.le; omega) hij]; grind] at h3
  rw [nv_self, hg.one j hj] at h3
  grind
/-- Independent rows are asl many asl pivots. -/
theorem LI.full {n c : Nat} {f r : F2} {p : List Nat} {d : Rat} (hf : LI n c f) (hr : Rref n c r p) (h : RE n c f r d) : p.length = n := by
  have hle := hr.le
  refine Classical.byContradiction fun hne => ?_
  have := (h.li hf) (fun i => if i = p.length then 1 else 0) (fun j hj => by
    unfold cmb
    rw [sm_one p.length (by omega) fun i _ hi => by simp [hi]]
    rw [hr.below _ (Nat.le_refl _) (by omega) j hj]; grind) p.length (by omega)
  simp at this

/-- The null vectors, one for each column that is no pivot. -/
def nullL (r : F2) (p : List Nat) (c : Nat) : Mat := ((List.range c).filter (· ∉ p)).map fun j => (List.range c).map (nv r p j)
theorem nullL_li (r : F2) (p : List Nat) (c : Nat) : LI (nullL r p c).length c (ent (nullL r p c)) := by
  intro y hy i hi
  have hi' : i < ((List.range c).filter (· ∉ p)).length := by simpa [nullL] using hi
  have hmem := List.getElem_mem hi'
  rw [List.mem_filter, List.mem_range] at hmem
  have h1 := hy _ hmem.1
  have hnp : ((List.range c).filter (· ∉ p))[i] ∉ p := by simpa using hmem.2
  have he : ∀ k (hk : k < ((List.range c).filter (· ∉ p)).length), ent (nullL r p c) k ((List.range c).filter (· ∉ p))[i] = nv r p ((List.range c).filter (· ∉ p))[k] ((List.range c).filter (· ∉ p))[i] := fun k hk => by
    unfold ent nullL
    rw [List.getD_eq_getElem?_getD (l := List.map _ _), List.getElem?_map, List.getElem?_eq_getElem hk]
    simp only [Option.map_some, Option.getD_some]
    rw [List.getD_eq_getElem?_getD, List.getElem?_map, List.getElem?_range hmem.1]; rfl
  unfold cmb at h1
  rw [sm_one i hi fun k hk hki => by
    have hk' : k < ((List.range c).filter (· ∉ p)).length := by simpa [nullL] using hk
    have hne : ((List.range c).filter (· ∉ p))[i] ≠ ((List.range c).filter (· ∉ p))[k] := fun e => by
      have hnd : ((List.range c).filter (· ∉ p)).Pairwise (· < ·) := List.Pairwise.filter _ List.pairwise_lt_range
      rw [List.pairwise_iff_getElem] at hnd
      rcases Nat.lt_or_gt_of_ne hki with a | a
      · have := hnd k i hk' hi' a; omega
      · have := hnd i k hi' hk' a; omega
    rw [he k hk', nv_free hnp hne]; grind, he i hi', nv_self] at h1
  grind

end Go.Lin


namespace Go.Lin
abbrev Vec := Nat → Rat
def dot (c : Nat) (u v : Vec) : Rat := sm c fun j => u j * v j
def nz (c : Nat) (u : Vec) : Prop := ∃ j, j < c ∧ u j ≠ 0
theorem dot_comm (c : Nat) (u v : Vec) : dot c u v = dot c v u := sm_congr fun j _ => by grind
theorem dot_add (c : Nat) (u v x : Vec) : dot c (fun j => u j + v j) x = dot c u x + dot c v x := by
  unfold dot; rw [← sm_add]; exact sm_congr fun j _ => by grind
theorem dot_mul (c : Nat) (a : Rat) (u x : Vec) : dot c (fun j => a * u j) x = a * dot c u x := by
  unfold dot; rw [← sm_mul]; exact sm_congr fun j _ => by grind
theorem dot_lin (c : Nat) (u v : Vec) (t : Rat) (x : Vec) : dot c (fun j => u j + t * v j) x = dot c u x + t * dot c v x := by
  rw [dot_add c u (fun j => t * v j), dot_mul]
theorem dot_congr {c : Nat} {u u' v : Vec} (h : ∀ j, j < c → u j = u' j) : dot c u v = dot c u' v := sm_congr fun j hj => by rw [h j hj]
theorem dot_zero {c : Nat} {u v : Vec} (h : ∀ j, j < c → u j = 0) : dot c u v = 0 := sm_zero fun j hj => by rw [h j hj]; grind
theorem sm_nonneg {n : Nat} {f : Nat → Rat} (h : ∀ i, i < n → 0 ≤ f i) : 0 ≤ sm n f := by
  induction n with
  | zero => exact Rat.le_refl
  | succ n ih => unfold sm; have := ih fun i hi => h i (by omega); have := h n (by omega); grind
theorem sm_pos_zero {n : Nat} {f : Nat → Rat} (h : ∀ i, i < n → 0 ≤ f i) (h0 : sm n f = 0) : ∀ i, i < n → f i = 0 := by
  induction n with
  | zero => intro i hi; omega
  | succ n ih =>
    unfold sm at h0
    have h1 := sm_nonneg (n := n) fun i hi => h i (by omega)
    have h2 := h n (by omega)
    have h3 : sm n f = 0 := by grind
    have h4 : f n = 0 := by grind
    intro i hi
    by_cases e : i = n
    · subst e; exact h4
    · exact ih (fun i hi => h i (by omega)) h3 i (by omega)
theorem sq_nonneg (a : Rat) : 0 ≤ a * a := by
  rcases Rat.le_total (a := 0) (b := a) with h | h
  · exact Rat.mul_nonneg h h
  · have : 0 ≤ (-a) * (-a) := Rat.mul_nonneg (by grind) (by grind)
    grind
theorem dot_self {c : Nat} {u : Vec} (h : dot c u u = 0) : ∀ j, j < c → u j = 0 := fun j hj => by
  have := sm_pos_zero (fun i _ => sq_nonneg (u i)) h j hj
  rcases Rat.mul_eq_zero.1 this with e | e <;> exact e
theorem nz_of {c : Nat} {u : Vec} (h : ¬ ∀ j, j < c → u j = 0) : nz c u := by
  apply Classical.byContradiction
  intro hn
  exact h fun j hj => Classical.byContradiction fun e => hn ⟨j, hj, e⟩
theorem nz.not {c : Nat} {u : Vec} (h : nz c u) : ¬ ∀ j, j < c → u j = 0 := fun k => let ⟨j, hj, e⟩ := h; e (k j hj)
def cntGe (c : Nat) (u : Vec) (z : List Vec) : Nat := z.countP fun v => decide (0 ≤ dot c u v)
def posN (c : Nat) (u : Vec) (z : List Vec) : Nat := z.countP fun v => decide (0 < dot c u v)
def onL (c : Nat) (u : Vec) (z : List Vec) : List Vec := z.filter fun v => decide (dot c u v = 0)
/-- The depth of the origin. -/
def IsDep (c : Nat) (z : List Vec) (k : Nat) : Prop := (∃ u, nz c u ∧ cntGe c u z = k) ∧ ∀ u, nz c u → k ≤ cntGe c u z
theorem cntGe_le (c : Nat) (u : Vec) (z : List Vec) : cntGe c u z ≤ z.length := List.countP_le_length
theorem IsDep.le {c : Nat} {z : List Vec} {k : Nat} (h : IsDep c z k) : k ≤ z.length := by
  obtain ⟨⟨u, _, h2⟩, _⟩ := h; rw [← h2]; exact cntGe_le _ _ _
/-- A step so small that no sign turns. -/
def Calm (c : Nat) (u y : Vec) (z : List Vec) (e : Rat) : Prop := ∀ v ∈ z, (0 < dot c u v → ∀ t, 0 < t → t ≤ e → 0 < dot c u v + t * dot c y v) ∧ (dot c u v < 0 → ∀ t, 0 < t → t ≤ e → dot c u v + t * dot c y v < 0)
theorem Calm.le {c : Nat} {u y : Vec} {z : List Vec} {e d : Rat} (h : Calm c u y z e) (hd : d ≤ e) : Calm c u y z d := fun v hv =>
  ⟨fun h1 t h2 h3 => (h v hv).1 h1 t h2 (Rat.le_trans h3 hd), fun h1 t h2 h3 => (h v hv).2 h1 t h2 (Rat.le_trans h3 hd)⟩
end Go.Lin


namespace Go.Lin
end Go.Lin


namespace Go.Lin
/-- All that is orthogonal to the vectors of M. -/
def Ort (c : Nat) (M : List Vec) (y : Vec) : Prop := ∀ v ∈ M, dot c v y = 0
theorem Ort.app {c : Nat} {M L : List Vec} {y : Vec} : Ort c (M ++ L) y ↔ Ort c M y ∧ Ort c L y := by
  constructor
  · exact fun h => ⟨fun v hv => h v (List.mem_append_left _ hv), fun v hv => h v (List.mem_append_right _ hv)⟩
  · rintro ⟨h1, h2⟩ v hv
    rcases List.mem_append.1 hv with hv | hv
    · exact h1 v hv
    · exact h2 v hv
theorem dot_linr (c : Nat) (v u y : Vec) (t : Rat) : dot c v (fun j => u j + t * y j) = dot c v u + t * dot c v y := by
  rw [dot_comm, dot_lin, dot_comm c u v, dot_comm c y v]
theorem Ort.lin {c : Nat} {M : List Vec} {u y : Vec} (t : Rat) (hu : Ort c M u) (hy : Ort c M y) : Ort c M (fun j => u j + t * y j) := fun v hv => by
  rw [dot_linr, hu v hv, hy v hv]; grind
theorem Ort.congr {c : Nat} {M : List Vec} {u y : Vec} (h : ∀ j, j < c → u j = y j) (hu : Ort c M u) : Ort c M y := fun v hv => by
  rw [dot_comm, ← dot_congr h, dot_comm]; exact hu v hv
theorem dot_cmb (c k : Nat) (f : F2) (a : Vec) (v : Vec) : dot c v (fun j => cmb k f a j) = sm k fun i => a i * dot c v (f i) := by
  unfold dot cmb
  rw [sm_congr (g := fun j => sm k fun i => v j * (a i * f i j)) fun j _ => (sm_mul k (v j) _).symm, sm_comm]
  exact sm_congr fun i _ => by rw [← sm_mul]; exact sm_congr fun j _ => by grind
/-- k vectors that are independent, and of which all that P holds of are combinations. -/
structure Basis (c : Nat) (P : Vec → Prop) (k : Nat) (f : F2) : Prop where
  mem : ∀ i, i < k → P (f i)
  li : LI k c f
  span : ∀ y, P y → ∃ a : Vec, ∀ j, j < c → y j = cmb k f a j
theorem li_le {k m c : Nat} {f g : F2} (hf : LI k c f) (h : ∀ i, i < k → ∃ a : Vec, ∀ j, j < c → f i j = cmb m g a j) : k ≤ m := by
  obtain ⟨r, p, d, hr, h1⟩ := rref_ex k c f
  have h2 := hf.full hr h1
  have h3 : ∀ i, ∃ a : Vec, i < k → ∀ j, j < c → f i j = cmb m g a j := fun i => by
    by_cases hi : i < k
    · obtain ⟨a, ha⟩ := h i hi; exact ⟨a, fun _ => ha⟩
    · exact ⟨fun _ => 0, fun h => absurd h hi⟩
  have := rank_le hr h1 (fun i => (h3 i).choose) g fun i hi j hj => (h3 i).choose_spec hi j hj
  omega
theorem Basis.le {c : Nat} {P Q : Vec → Prop} {k m : Nat} {f g : F2} (h : Basis c P k f) (h' : Basis c Q m g) (hPQ : ∀ y, P y → Q y) : k ≤ m :=
  li_le h.li fun i hi => h'.span _ (hPQ _ (h.mem i hi))
/-- The null vectors are a basis. -/
theorem nul_span {n c : Nat} {r : F2} {p : List Nat} (h : Rref n c r p) {x : Vec} (hx : Nul n c r x) (j : Nat) (hj : j < c) : x j = cmb (nullL r p c).length (ent (nullL r p c)) (fun i => x (((List.range c).filter (· ∉ p)).getD i 0)) j := by
  obtain ⟨F, hF⟩ : ∃ F, (List.range c).filter (· ∉ p) = F := ⟨_, rfl⟩
  have hlen : (nullL r p c).length = F.length := by rw [← hF]; simp [nullL]
  have he : ∀ i (hi : i < F.length), ent (nullL r p c) i j = nv r p F[i] j := fun i hi => by
    unfold ent nullL
    rw [hF, List.getD_eq_getElem?_getD (l := List.map _ _), List.getElem?_map, List.getElem?_eq_getElem hi]
    simp only [Option.map_some, Option.getD_some]
    rw [List.getD_eq_getElem?_getD, List.getElem?_map, List.getElem?_range hj]; rfl
  have hFm : ∀ q, q ∈ F ↔ q < c ∧ q ∉ p := fun q => by rw [← hF]; simp
  have hnd : F.Pairwise (· < ·) := by rw [← hF]; exact List.Pairwise.filter _ List.pairwise_lt_range
  have hgd : ∀ i (hi : i < F.length), F.getD i 0 = F[i] := fun i hi => by simp [List.getD_eq_getElem?_getD, hi]
  rw [hF, hlen]
  unfold cmb
  rw [sm_congr (g := fun i => x (F.getD i 0) * nv r p (F.getD i 0) j) fun i hi => by rw [he i hi]; dsimp only; rw [hgd i hi]]
  by_cases hjp : j ∈ p
  · obtain ⟨i0, hi0, rfl⟩ := List.getElem_of_mem hjp
    have hn : ∀ q, q ∉ p → nv r p q p[i0] = - r i0 q := fun q hq => h.nv_piv hq i0 hi0
    have hrow := h.row i0 hi0 x
    have h0 := hx i0 (by have := h.le; omega)
    rw [hrow] at h0
    -- the sum over free columns
    have key : ∀ (g : Nat → Rat), sm F.length (fun i => g (F.getD i 0)) = sm c (fun q => if q ∈ p then 0 else g q) := fun g => by
      have gen : ∀ (k : Nat) (G : List Nat), G = (List.range k).filter (· ∉ p) → sm G.length (fun i => g (G.getD i 0)) = sm k (fun q => if q ∈ p then 0 else g q) := by
        intro k
        induction k with
        | zero => intro G hG; subst hG; rfl
        | succ k ih =>
          intro G hG
          rw [List.range_succ, List.filter_append] at hG
          have ih := ih _ rfl
          show _ = sm k _ + _
          by_cases hk : k ∈ p
          · have : (List.filter (· ∉ p) [k]) = [] := by simp [hk]
            rw [this, List.append_nil] at hG
            subst hG
            rw [ih]; simp [hk]; grind
          · have : (List.filter (· ∉ p) [k]) = [k] := by simp [hk]
            rw [this] at hG
            subst hG
            obtain ⟨H, hH⟩ : ∃ H, List.filter (· ∉ p) (List.range k) = H := ⟨_, rfl⟩
            rw [hH] at ih ⊢
            rw [List.length_append, ← ih]
            show sm H.length _ + _ = _
            congr 1
            · exact sm_congr fun i hi => by simp [List.getD_eq_getElem?_getD, List.getElem?_append_left hi]
            · simp [hk, List.getD_eq_getElem?_getD]
      exact gen c F hF.symm
    have k1 := key (fun q => x q * - r i0 q)
    have k2 : sm c (fun q => if q ∈ p then 0 else x q * - r i0 q) = - sm c (fun q => if q ∈ p then 0 else r i0 q * x q) := by
      have := sm_mul c (-1) (fun q => if q ∈ p then 0 else r i0 q * x q)
      rw [show -sm c (fun q => if q ∈ p then 0 else r i0 q * x q) = -1 * sm c (fun q => if q ∈ p then 0 else r i0 q * x q) by grind, ← this]
      exact sm_congr fun q _ => by split <;> grind
    have k3 : sm F.length (fun i => x (F.getD i 0) * nv r p (F.getD i 0) p[i0]) = sm F.length (fun i => x (F.getD i 0) * - r i0 (F.getD i 0)) := sm_congr fun i hi => by
      rw [hgd i hi, hn _ ((hFm _).1 (List.getElem_mem hi)).2]
    rw [k3, k1, k2]
    grind
  · obtain ⟨i0, hi0, hij⟩ := List.getElem_of_mem ((hFm j).2 ⟨hj, hjp⟩)
    rw [sm_one i0 hi0 fun i hi hne => by
      rw [hgd i hi]
      have : F[i] ≠ j := fun e => by
        rw [List.pairwise_iff_getElem] at hnd
        rcases Nat.lt_or_gt_of_ne hne with a | a
        · have := hnd i i0 hi hi0 a; omega
        · have := hnd i0 i hi0 hi a; omega
      rw [nv_free hjp (Ne.symm this)]; grind]
    rw [hgd i0 hi0, hij, nv_self]; grind
theorem basis_null {n c : Nat} {f r : F2} {p : List Nat} {d : Rat} (hr : Rref n c r p) (h : RE n c f r d) : Basis c (Nul n c f) (nullL r p c).length (ent (nullL r p c)) := by
  refine ⟨fun i hi => ?_, nullL_li r p c, fun y hy => ⟨_, fun j hj => nul_span hr ((h.nul y).1 hy) j hj⟩⟩
  have hi' : i < ((List.range c).filter (· ∉ p)).length := by simpa [nullL] using hi
  have hm := List.getElem_mem hi'
  rw [List.mem_filter, List.mem_range] at hm
  have hnp : ((List.range c).filter (· ∉ p))[i] ∉ p := by simpa using hm.2
  have h1 := (h.nul _).2 (hr.nv_nul hnp hm.1)
  intro q hq
  rw [← h1 q hq]
  refine sm_congr fun j hj => ?_
  congr 1
  unfold ent nullL
  rw [List.getD_eq_getElem?_getD (l := List.map _ _), List.getElem?_map, List.getElem?_eq_getElem hi']
  simp only [Option.map_some, Option.getD_some]
  rw [List.getD_eq_getElem?_getD, List.getElem?_map, List.getElem?_range hj]; rfl
/-- The vectors of a list asl a matrix. -/
def fL (M : List Vec) : F2 := fun i => M.getD i fun _ => 0
theorem ort_nul (c : Nat) (M : List Vec) (y : Vec) : Ort c M y ↔ Nul M.length c (fL M) y := by
  constructor
  · intro h i hi
    have := h M[i] (List.getElem_mem hi)
    unfold dot at this
    rw [← this]
    exact sm_congr fun j _ => by simp [fL, List.getD_eq_getElem?_getD, hi]
  · intro h v hv
    obtain ⟨i, hi, rfl⟩ := List.getElem_of_mem hv
    have := h i hi
    unfold dot
    rw [← this]
    exact sm_congr fun j _ => by simp [fL, List.getD_eq_getElem?_getD, hi]
/-- The dimension of what is orthogonal to M. -/
def Dim (c : Nat) (M : List Vec) (k : Nat) : Prop := ∃ f, Basis c (Ort c M) k f
theorem Basis.of_iff {c : Nat} {P Q : Vec → Prop} {k : Nat} {f : F2} (h : Basis c P k f) (hPQ : ∀ y, P y ↔ Q y) : Basis c Q k f :=
  ⟨fun i hi => (hPQ _).1 (h.mem i hi), h.li, fun y hy => h.span y ((hPQ y).2 hy)⟩
theorem dim_ex (c : Nat) (M : List Vec) : ∃ k, Dim c M k := by
  obtain ⟨r, p, d, hr, h⟩ := rref_ex M.length c (fL M)
  exact ⟨_, _, (basis_null hr h).of_iff fun y => (ort_nul c M y).symm⟩
theorem Dim.iff {c : Nat} {M L : List Vec} {k : Nat} (h : Dim c M k) (hML : ∀ y, Ort c M y ↔ Ort c L y) : Dim c L k := let ⟨f, hf⟩ := h; ⟨f, hf.of_iff hML⟩
/-- One more vector, to which not all are orthogonal. -/
theorem Dim.more {c : Nat} {M : List Vec} {k : Nat} (h : Dim c M (k + 1)) {v y : Vec} (hy : Ort c M y) (hv : dot c v y ≠ 0) : Dim c (M ++ [v]) k := by
  obtain ⟨f, hf⟩ := h
  obtain ⟨m, g, hg⟩ := dim_ex c (M ++ [v])
  have hext : ∀ a j, cmb (m + 1) (fun i => if i < m then g i else y) a j = cmb m g a j + a m * y j := fun a j => by
    unfold cmb
    show sm m _ + _ = _
    congr 1
    · exact sm_congr fun i hi => by simp [hi]
    · simp
  have hgo : ∀ i, i < m → Ort c M (g i) ∧ dot c v (g i) = 0 := fun i hi => by
    have := Ort.app.1 (hg.mem i hi)
    exact ⟨this.1, this.2 v (by simp)⟩
  have h1 : m + 1 ≤ k + 1 := by
    refine li_le (c := c) (f := fun i => if i < m then g i else y) (g := f) (fun a ha => ?_) fun i hi => ?_
    · have h0 : dot c v (fun j => cmb m g a j + a m * y j) = 0 := by
        rw [dot_comm]; exact dot_zero fun j hj => by rw [← hext]; exact ha j hj
      rw [dot_linr c v (fun j => cmb m g a j) y (a m), dot_cmb, sm_zero fun i hi => by rw [(hgo i hi).2]; grind] at h0
      have ham : a m = 0 := by
        have : a m * dot c v y = 0 := by grind
        rcases Rat.mul_eq_zero.1 this with e | e
        · exact e
        · contradiction
      have h2 := hg.li a fun j hj => by have := ha j hj; rw [hext, ham] at this; grind
      intro i hi
      by_cases e : i = m
      · subst e; exact ham
      · exact h2 i (by omega)
    · by_cases hi' : i < m
      · obtain ⟨a, ha⟩ := hf.span _ (hgo i hi').1
        exact ⟨a, fun j hj => by simp only [hi', if_true]; exact ha j hj⟩
      · obtain ⟨a, ha⟩ := hf.span _ hy
        exact ⟨a, fun j hj => by simp only [hi', if_false]; exact ha j hj⟩
  have h2 : k + 1 ≤ m + 1 := by
    refine li_le (c := c) (f := f) (g := fun i => if i < m then g i else y) hf.li fun i hi => ?_
    have hfi := hf.mem i hi
    obtain ⟨t, ht⟩ : ∃ t, dot c v (f i) / dot c v y = t := ⟨_, rfl⟩
    have ht2 : t * dot c v y = dot c v (f i) := by rw [← ht]; exact Rat.div_mul_cancel hv
    obtain ⟨a, ha⟩ := hg.span (fun j => f i j + -t * y j) (Ort.app.2 ⟨hfi.lin (-t) hy, fun w hw => by
      have : w = v := by simpa using hw
      subst this
      rw [dot_linr]; grind⟩)
    refine ⟨fun q => if q < m then a q else t, fun j hj => ?_⟩
    rw [hext]
    have h3 := ha j hj
    have h4 : cmb m g (fun q => if q < m then a q else t) j = cmb m g a j := sm_congr fun q hq => by simp [hq]
    simp only [Nat.lt_irrefl, if_false]
    rw [h4]; grind
  have : m = k := by omega
  subst this
  exact ⟨g, hg⟩
theorem Dim.one {c : Nat} {M : List Vec} (h : Dim c M 1) {x : Vec} (hx : Ort c M x) (hn : nz c x) (y : Vec) (hy : Ort c M y) : ∃ t : Rat, ∀ j, j < c → y j = t * x j := by
  obtain ⟨f, hf⟩ := h
  obtain ⟨a, ha⟩ := hf.span x hx
  obtain ⟨b, hb⟩ := hf.span y hy
  have h1 : ∀ (a : Vec) j, cmb 1 f a j = a 0 * f 0 j := fun a j => by unfold cmb sm sm; grind
  have ha0 : a 0 ≠ 0 := fun e => hn.not fun j hj => by rw [ha j hj, h1, e]; grind
  refine ⟨b 0 / a 0, fun j hj => ?_⟩
  rw [hb j hj, ha j hj, h1, h1, ← Rat.mul_assoc, Rat.div_mul_cancel ha0]
theorem Dim.two {c k : Nat} {M : List Vec} (h : Dim c M (k + 2)) (x : Vec) : ∃ y, Ort c M y ∧ ∀ t : Rat, ¬ ∀ j, j < c → y j = t * x j := by
  apply Classical.byContradiction
  intro hn
  have hall : ∀ y, Ort c M y → ∃ t : Rat, ∀ j, j < c → y j = t * x j := fun y hy => Classical.byContradiction fun h2 => hn ⟨y, hy, fun t ht => h2 ⟨t, ht⟩⟩
  obtain ⟨f, hf⟩ := h
  have := li_le (m := 1) (g := fun _ => x) hf.li fun i hi => by
    obtain ⟨t, ht⟩ := hall _ (hf.mem i hi)
    exact ⟨fun _ => t, fun j hj => by rw [ht j hj]; unfold cmb sm sm; grind⟩
  omega
end Go.Lin


namespace Go.Lin
def z0 : Vec := fun _ => 0
/-- Some rows by their numbers. -/
def pickV (z : List Vec) (I : List Nat) : List Vec := I.map fun i => z.getD i z0
end Go.Lin


namespace Go.Lin
/-- Is v on the side of some directions. -/
def lexOk (c : Nat) : List Vec → Vec → Bool
  | [], _ => true
  | u :: us, v => decide (0 < dot c u v) || (decide (dot c u v = 0) && lexOk c us v)
def lexc (c : Nat) (us : List Vec) (z : List Vec) : Nat := z.countP fun v => lexOk c us v
theorem lexc_cons (c : Nat) (u : Vec) (us z : List Vec) : lexc c (u :: us) z = posN c u z + lexc c us (onL c u z) := by
  induction z with
  | nil => rfl
  | cons v z ih =>
    unfold lexc posN onL at *
    rw [List.countP_cons, List.countP_cons, List.filter_cons, ih]
    by_cases a : 0 < dot c u v
    · rw [if_pos (by simp [lexOk, a]), if_pos (by simpa using a), if_neg (by simp; grind)]; omega
    · by_cases b : dot c u v = 0
      · rw [if_neg (c := decide (0 < dot c u v) = true) (by simpa using a), if_pos (c := decide (dot c u v = 0) = true) (by simpa using b), List.countP_cons]
        have e : lexOk c (u :: us) v = lexOk c us v := by simp [lexOk, b]
        rw [e]; omega
      · rw [if_neg (by simp [lexOk, a, b]), if_neg (by simpa using a), if_neg (by simpa using b)]; omega
/-- Vectors that are 0 are on each side. -/
theorem lexOk_zero {c : Nat} {v : Vec} (h : ¬ nz c v) : ∀ us : List Vec, lexOk c us v = true
  | [] => rfl
  | u :: us => by
    have h0 : dot c u v = 0 := by
      rw [dot_comm]; exact dot_zero fun j hj => Classical.byContradiction fun e => h ⟨j, hj, e⟩
    simp [lexOk, h0, lexOk_zero h us]
open Classical in
/-- The vectors that are not 0. -/
noncomputable def nzL (c : Nat) (z : List Vec) : List Vec := z.filter fun v => decide (nz c v)
open Classical in
theorem countP_nzL {c : Nat} {p : Vec → Bool} (hp : ∀ v, ¬ nz c v → p v = true) (z : List Vec) : z.countP p = (nzL c z).countP p + (z.length - (nzL c z).length) := by
  induction z with
  | nil => rfl
  | cons v z ih =>
    have hle : (nzL c z).length ≤ z.length := List.length_filter_le ..
    unfold nzL at *
    rw [List.filter_cons, List.countP_cons]
    by_cases h : nz c v
    · rw [if_pos (c := decide (nz c v) = true) (by simpa using h), List.countP_cons, List.length_cons, List.length_cons, ih]; omega
    · rw [if_neg (c := decide (nz c v) = true) (by simpa using h), List.length_cons, if_pos (hp v h), ih]; omega
theorem lexc_nzL (c : Nat) (us z : List Vec) : lexc c us z = lexc c us (nzL c z) + (z.length - (nzL c z).length) := countP_nzL (fun _ h => lexOk_zero h us) z
theorem cntGe_nzL (c : Nat) (u : Vec) (z : List Vec) : cntGe c u z = cntGe c u (nzL c z) + (z.length - (nzL c z).length) := countP_nzL (fun v h => by
  have h0 : dot c u v = 0 := by rw [dot_comm]; exact dot_zero fun j hj => Classical.byContradiction fun e => h ⟨j, hj, e⟩
  simp [h0]) z
theorem IsDep.nzL {c k : Nat} {z : List Vec} (h : IsDep c (nzL c z) k) : IsDep c z (k + (z.length - (nzL c z).length)) := by
  obtain ⟨⟨u, h1, h2⟩, h3⟩ := h
  refine ⟨⟨u, h1, by rw [cntGe_nzL, h2]⟩, fun v hv => ?_⟩
  rw [cntGe_nzL]; have := h3 v hv; omega
/-- A witness: its first direction is not 0, it has n vectors on its side, and it is no longer than what the vectors span. -/
structure Wit (c : Nat) (z : List Vec) (n : Nat) (us : List Vec) : Prop where
  head : ∃ u t, us = u :: t ∧ nz c u
  cnt : lexc c us z = n
  few : ∀ k, Dim c z k → us.length + k ≤ c ∨ us.length = 1
theorem Wit.one {c : Nat} {z : List Vec} {u : Vec} (hu : nz c u) (ho : onL c u z = []) : Wit c z (posN c u z) [u] :=
  ⟨⟨u, [], rfl, hu⟩, by rw [lexc_cons, ho]; rfl, fun _ _ => Or.inr rfl⟩
/-- The dimension of what is orthogonal to fewer vectors. -/
theorem Dim.lt {c k m : Nat} {z L : List Vec} {u : Vec} (h : Dim c z k) (h' : Dim c L m) (hs : ∀ v ∈ L, v ∈ z) (hu : Ort c L u) (hn : ∃ v ∈ z, dot c v u ≠ 0) : k < m := by
  obtain ⟨v, hv, hne⟩ := hn
  rcases m with _ | m
  · obtain ⟨f, hf⟩ := h'
    obtain ⟨a, ha⟩ := hf.span u hu
    exact absurd (by rw [dot_comm]; exact dot_zero fun j hj => by rw [ha j hj]; rfl) hne
  · obtain ⟨g, hg⟩ := h'.more hu hne
    obtain ⟨f, hf⟩ := h
    have := hf.le hg fun y hy => Ort.app.2 ⟨fun x hx => hy x (hs x hx), fun x hx => by simp at hx; subst hx; exact hy _ hv⟩
    omega
theorem Dim.lt_c {c k : Nat} {z : List Vec} (h : Dim c z k) (hz : ∃ v ∈ z, nz c v) : k < c := by
  obtain ⟨v, hv, hn⟩ := hz
  obtain ⟨m, hm⟩ := dim_ex c []
  have h1 := h.lt hm (by simp) (u := v) (by simp [Ort]) ⟨v, hv, fun e => hn.not (dot_self e)⟩
  obtain ⟨f, hf⟩ := hm
  have := li_le (m := c) (g := fun i j => if j = i then 1 else 0) hf.li fun i _ => ⟨f i, fun j hj => by unfold cmb; rw [sm_one j hj fun i _ hi => by simp [Ne.symm hi]]; simp⟩
  omega
theorem Wit.more {c l : Nat} {z us : List Vec} {u : Vec} (hu : nz c u) (h : Wit c (onL c u z) l us) (ho : ∃ v ∈ onL c u z, nz c v) (hn : ∃ v ∈ z, dot c v u ≠ 0) : Wit c z (posN c u z + l) (u :: us) :=
  ⟨⟨u, us, rfl, hu⟩, by rw [lexc_cons, h.cnt], fun k hk => by
    obtain ⟨m, hm⟩ := dim_ex c (onL c u z)
    have h1 := hk.lt hm (fun v hv => (List.mem_filter.1 hv).1) (u := u) (fun v hv => by rw [dot_comm]; simpa using (List.mem_filter.1 hv).2) hn
    have h2 := hm.lt_c ho
    rcases h.few m hm with h3 | h3
    · left; simp; omega
    · left; simp; omega⟩
/-- A choice of vectors has been tried: whatever it leaves is not below. -/
def Tried (c : Nat) (z O : List Vec) (cnt : Nat) (I : List Nat) : Prop := Dim c (pickV z I ++ O) 1 → ∀ x, nz c x → Ort c (pickV z I ++ O) x → ∀ l, IsDep c (onL c x z) l → cnt ≤ posN c x z + l
theorem Tried.le {c : Nat} {z O : List Vec} {m n : Nat} {I : List Nat} (h : Tried c z O n I) (hm : m ≤ n) : Tried c z O m I := fun h1 x h2 h3 l h4 => Nat.le_trans hm (h h1 x h2 h3 l h4)
end Go.Lin


namespace Go.Lin
/-- A row asl a vector. -/
def vec (l : List Rat) : Vec := fun j => l.getD j 0
def vecs (m : Mat) : List Vec := m.map vec
section
variable {n c : Nat} {m : Mat} (hs : Shp n c m)
include hs
end
end Go.Lin


namespace Go.Lin
theorem vecs_filter {z : Mat} {p : List Rat → Bool} {q : Vec → Bool} (h : ∀ r ∈ z, p r = q (vec r)) : vecs (z.filter p) = (vecs z).filter q := by
  unfold vecs
  rw [List.filter_map]
  exact congrArg _ (List.filter_congr fun r hr => h r hr)
/-- All elements are 0. -/
def zeroB (r : List Rat) : Bool := r.all fun x => decide (x = 0)
theorem nz_vec {c : Nat} {r : List Rat} (hr : r.length = c) : nz c (vec r) ↔ zeroB r = false := by
  constructor
  · rintro ⟨j, hj, hne⟩
    rw [← Bool.not_eq_true]
    intro h
    unfold zeroB at h
    rw [List.all_eq_true] at h
    have hj' : j < r.length := by omega
    have := h r[j] (List.getElem_mem hj')
    apply hne
    unfold vec
    rw [List.getD_eq_getElem?_getD, List.getElem?_eq_getElem hj']
    simpa using this
  · intro h
    apply nz_of
    intro hz
    rw [← Bool.not_eq_true] at h
    apply h
    unfold zeroB
    rw [List.all_eq_true]
    intro x hx
    obtain ⟨j, hj, rfl⟩ := List.getElem_of_mem hx
    have := hz j (by omega)
    unfold vec at this
    rw [List.getD_eq_getElem?_getD, List.getElem?_eq_getElem hj] at this
    simpa using this
/-- The rows that are not 0. -/
def others (z : Mat) : Mat := z.filter fun r => !zeroB r
theorem others_vecs {n c : Nat} {z : Mat} (hs : Shp n c z) : vecs (others z) = nzL c (vecs z) := vecs_filter fun r hr => by
  by_cases h : zeroB r = false
  · rw [h]; have := (nz_vec (hs.2 r hr)).2 h; simp [this]
  · have h2 : ¬ nz c (vec r) := fun k => h ((nz_vec (hs.2 r hr)).1 k)
    simp [h2]; simpa using h
section
variable {n c : Nat} {z : Mat} (hs : Shp n c z) (hz : ∀ v ∈ vecs z, nz c v) (hne : z ≠ [])
include hs hz hne
end
/-- Zeros put back. -/
theorem back {n c cnt : Nat} {z us : Mat} (hs : Shp n c z) (h : IsDep c (vecs (others z)) cnt) (hw : Wit c (vecs (others z)) cnt (vecs us)) :
    IsDep c (vecs z) (cnt + (z.length - (others z).length)) ∧ Wit c (vecs z) (cnt + (z.length - (others z).length)) (vecs us) := by
  have e : (others z).length = (nzL c (vecs z)).length := by rw [← others_vecs hs]; simp [vecs]
  have e2 : z.length = (vecs z).length := by simp [vecs]
  rw [e, e2]
  rw [others_vecs hs] at h hw
  refine ⟨h.nzL, hw.head, by rw [lexc_nzL, hw.cnt], fun k hk => hw.few k (hk.iff fun y => ⟨fun hy v hv => hy v (List.mem_filter.1 hv).1, fun hy v hv => ?_⟩)⟩
  by_cases hn : nz c v
  · exact hy v (List.mem_filter.2 ⟨hv, by simpa using hn⟩)
  · exact dot_zero fun j hj => Classical.byContradiction fun e => hn ⟨j, hj, e⟩
end Go.Lin


namespace Go.Lin
/-- Rows less a row. -/
def fromM (c : Nat) (p : Mat) (x : List Rat) : Mat := p.map fun r => (List.range c).map fun j => r.getD j 0 - x.getD j 0
theorem fromM_shp (c : Nat) (p : Mat) (x : List Rat) : Shp p.length c (fromM c p x) := ⟨by simp [fromM], fun r hr => by obtain ⟨_, _, rfl⟩ := List.mem_map.1 hr; simp⟩
theorem from_get {c : Nat} {p : Mat} {x : List Rat} (hs : ∀ r ∈ p, r.length = c) (hx : x.length = c) (j : Nat) (hj : j < p.length) (h : j < (fromM c p x).length) : (fromM c p x)[j] = List.zipWith (· - ·) p[j] x := by
  have hr := hs _ (List.getElem_mem hj)
  have e : (fromM c p x)[j] = (List.range c).map fun i => p[j].getD i 0 - x.getD i 0 := by simp [fromM]
  rw [e]
  refine List.ext_getElem (by simp; omega) fun i h1 h2 => ?_
  have hi : i < c := by simpa using h1
  simp [List.getD_eq_getElem?_getD, show i < p[j].length by omega, show i < x.length by omega]
end Go.Lin


namespace Go.Lin
open Go.Lim
/-- All numbers of a matrix have at most B digits. -/
def HB (B : Nat) (m : Mat) : Prop := ∀ i j, hq (ent m i j) ≤ B
theorem HB.pos {B : Nat} {m : Mat} (h : HB B m) : 1 ≤ B := Nat.le_trans (hq_pos _) (h 0 0)
theorem HB.mono {B C : Nat} {m : Mat} (h : HB B m) (hBC : B ≤ C) : HB C m := fun i j => Nat.le_trans (h i j) hBC
theorem HB.swap {n c B : Nat} {m : Mat} (h : HB B m) (hs : Shp n c m) {i k : Nat} (hi : i < n) (hk : k < n) : HB B (swapL m i k) := fun r j => by
  rw [ent_swap hs hi hk]; split
  · exact h _ _
  · split
    · exact h _ _
    · exact h _ _
theorem hq_elim {x y z u : Rat} {B : Nat} (hx : hq x ≤ B) (hy : hq y ≤ B) (hz : hq z ≤ B) (hu : hq u ≤ B) : hq (y / z) ≤ 2 * B ∧ hq (y / z * u) ≤ 3 * B ∧ hq (x - y / z * u) ≤ 5 * B := by
  have h1 := hq_div y z
  have h2 := hq_mul (y / z) u
  have h3 := hq_sub x (y / z * u)
  have h4 := hq_pos x
  omega
theorem HB.clear {n c B : Nat} {m : Mat} (h : HB B m) (hs : Shp n c m) {t : Nat} (ht : t < n) (col s : Nat) : HB (5 * B) (clear m t col s) := fun i j => by
  rw [ent_clear hs ht]; split
  · exact (hq_elim (h _ _) (h _ _) (h _ _) (h _ _)).2.2
  · have := h i j; omega
theorem HB.eN {n c B : Nat} {m : Mat} (h : HB B m) (hs : Shp n c m) (k : Nat) : HB (5 ^ (eN m k).2.1.length * B) (eN m k).1 := by
  induction k with
  | zero => simpa [Lin.eN] using h
  | succ k ih =>
    have hk := eN_ok hs k
    show HB (5 ^ (eStep (Lin.eN m k) k).2.1.length * B) (eStep (Lin.eN m k) k).1
    generalize Lin.eN m k = s at ih hk ⊢
    obtain ⟨M, p, odd⟩ := s
    have hM : Shp n c M := hk.shp
    have hl := hM.1
    have hle : p.length ≤ n := hk.ech.le
    unfold eStep
    dsimp only at ih ⊢
    split
    · exact ih
    · split
      · exact ih
      · rename_i e _ q hz
        obtain ⟨h1, h2⟩ := nzAt_some hz
        have := (ih.swap hM (show p.length < n by omega) (show p.length + q < n by omega)).clear (hM.swap (by omega) (by omega)) (show p.length < n by omega) k M.length
        refine this.mono ?_
        rw [List.length_append, List.length_singleton, Nat.pow_succ, Nat.mul_comm _ 5, Nat.mul_assoc]; exact Nat.le_refl _
theorem HB.divL {n c B : Nat} {m : Mat} (h : HB B m) (hs : Shp n c m) {i : Nat} (hi : i < n) (col : Nat) : HB (2 * B) (divL m i col) := fun k j => by
  rw [ent_divL hs hi]; split
  · have := hq_div (ent m i j) (ent m i col); have := h i j; have := h i col; omega
  · have := h k j; omega
theorem hq_elim2 {x y z u : Rat} {B : Nat} (hx : hq x ≤ B) (hy : hq y ≤ B) (hz : hq z ≤ 2 * B) (hu : hq u ≤ 2 * B) : hq (y / z) ≤ 3 * B ∧ hq (y / z * u) ≤ 5 * B ∧ hq (x - y / z * u) ≤ 7 * B := by
  have h1 := hq_div y z
  have h2 := hq_mul (y / z) u
  have h3 := hq_sub x (y / z * u)
  have h4 := hq_pos x
  omega
theorem HB.dStep {n c B : Nat} {m : Mat} (h : HB B m) (hs : Shp n c m) {t : Nat} (ht : t < n) (col s : Nat) : HB (7 * B) (above (Lin.divL m t col) t col s) := fun i j => by
  have hd := hs.divL ht col
  have h2 := h.divL hs ht col
  rw [ent_above hd ht]; split
  · refine (hq_elim2 ?_ ?_ (h2 _ _) (h2 _ _)).2.2
    · rw [ent_divL hs ht, if_neg (by omega)]; exact h _ _
    · rw [ent_divL hs ht, if_neg (by omega)]; exact h _ _
  · have := h2 i j; omega
theorem HB.dN {n c B : Nat} {m : Mat} {p : List Nat} (h : HB B m) (hs : Shp n c m) (he : Ech n c (ent m) p) (t : Nat) (ht : t ≤ p.length) : HB (7 ^ t * B) (dN m p t) := by
  induction t with
  | zero => simpa [Lin.dN] using h
  | succ t ih =>
    have hk := dN_ok hs he t (by omega)
    have hle := he.le
    refine ((ih (by omega)).dStep hk.shp (show t < n by omega) (p.getD t 0) t).mono ?_
    rw [Nat.pow_succ, Nat.mul_comm _ 7, Nat.mul_assoc]; exact Nat.le_refl _
theorem HB.pv {n c B : Nat} {m : Mat} (h : HB B m) (hs : Shp n c m) {i : Nat} (hi : i < n) (col : Nat) : HB (3 * B) (pv m i col) := fun k j => by
  rw [ent_pv hs hi]; split
  · have h1 := hq_mul (ent m i j) (1 / ent m i col); have h2 := hq_div 1 (ent m i col); have := h i j; have := h i col; have := hq_pos (ent m i j)
    have h3 : hq 1 = 1 := by decide +kernel
    omega
  · have := h k j; omega
theorem HB.out {n c B : Nat} {m : Mat} (h : HB B m) (hs : Shp n c m) {t : Nat} (ht : t < n) (col s : Nat) : HB (6 * B) (Lin.out (Lin.pv m t col) t col s) := fun i j => by
  have hd := hs.pv ht col
  have h2 := h.pv hs ht col
  rw [ent_outm hd ht]; split
  · rename_i a
    have e : ∀ j, ent (Lin.pv m t col) i j = ent m i j := fun j => by rw [ent_pv hs ht, if_neg a.1]
    rw [e, e]
    have h3 := hq_mul (ent (Lin.pv m t col) t j) (- ent m i col)
    have h4 := hq_add (ent m i j) (ent (Lin.pv m t col) t j * - ent m i col)
    rw [hq_neg] at h3
    have := h2 t j; have := h i j; have := h i col; have := h.pos
    omega
  · have := h2 i j; omega
end Go.Lin


namespace Go.Lin
def colsL {α : Type} (m : List (List α)) : Nat := (m.getD 0 []).length
theorem colsL_pos {α : Type} {m : List (List α)} (h : 0 < m.length) : colsL m = m[0].length := by simp [colsL, List.getD_eq_getElem?_getD, h]
end Go.Lin
namespace Go.Proofs.YtjbhcniiioepgaaGreat
open Go.RowKit Go.Rep Go.Lim Go.Lin

end Go.Proofs.YtjbhcniiioepgaaGreat


namespace Go.Proofs.YtjbhcniiioepgaaGreat
open Go.RowKit Go.Rep Go.Lim Go.Lin

end Go.Proofs.YtjbhcniiioepgaaGreat


namespace Go.Lin
end Go.Lin
namespace Go.Proofs.YtjbhcniiioepgaaGreat
open Go.RowKit Go.Rep Go.Lim Go.Lin

end Go.Proofs.YtjbhcniiioepgaaGreat


namespace Go.Rep
open Go.RowKit Go.Lim
section
variable {P : Program} {ops : Array Oper} {Q : Exit → Act → World → Prop} {rest : List Oper} {a : Act} {w : World}
variable {α : Type} {R : Mem → Value → α → Prop} {sz : Nat} {X : Nat → Bool} {base : Nat} {e : TypeId} {ao : Option Addr} {cap : Nat} {l : List α}
variable {d : Option Tmp} {ty : TypeId} {ps : String} {af : Array Edge}
end
/-- The struct at an element's address, now and in all worlds behind that leave the list's block. -/
theorem OL.rat {R : Mem → Value → Rat → Prop} (hR : Shaped R) {X : Nat → Bool} {base : Nat} {e : TypeId} {w : World} {ao : Option Addr} {cap : Nat} {l : List Rat} (h : OL R 3 X base e w ao cap l) (i : Nat) (hi : i < l.length) :
    ∃ g o sg a n c d k e, adr ao (i * 3) = ⟨g, o, none⟩ ∧ ob ao g = true ∧ Hid (∀ Y W', ExtX Y w W' → Y g = false → W'.cell? ⟨g, o, none⟩ = some (.bool sg) ∧ W'.cell? ⟨g, o + 1, none⟩ = some (.slice a n c) ∧ W'.cell? ⟨g, o + 2, none⟩ = some (.slice d k e)) ∧ R (mk (un X ao) w) (.agg #[.bool sg, .slice a n c, .slice d k e]) l[i] := by
  obtain ⟨b0, o0, hb0⟩ := h.hd (by omega)
  have hg : adr ao (i * 3) = ⟨b0, o0 + i * 3, none⟩ := by rw [hb0]; rfl
  obtain ⟨u, v0, v1, v2, hu, ⟨h0, _⟩, ⟨h1, _⟩, ⟨h2, _⟩, h3⟩ := h.cell3 i hi hg
  obtain ⟨sg, a, n, c, d, k, e, rfl⟩ := hR _ _ _ h3
  simp only [cellsL, Value.cells, List.cons.injEq, and_true] at hu
  obtain ⟨rfl, rfl, rfl⟩ := hu
  exact ⟨_, _, sg, a, n, c, d, k, e, hg, by rw [hb0]; simp [ob], hid fun Y W' hE hY => ⟨hE.cellY h0 hY, hE.cellY h1 hY, hE.cellY h2 hY⟩, h3⟩
end Go.Rep


namespace Go.Lin
open Go.Lim
/-- All numbers that the program's elimination meets are of few digits. -/
def Tame (m : Mat) (c : Nat) : Prop := ∃ B, 7 * B ≤ 68719476736 ∧ (∀ j, j ≤ c → HB B (eN m j).1) ∧ ∀ t, t ≤ (eN m c).2.1.length → HB B (dN (eN m c).1 (eN m c).2.1 t)
/-- .. in its first phase alone. -/
def TameE (m : Mat) (c : Nat) : Prop := ∃ B, 7 * B ≤ 68719476736 ∧ ∀ j, j ≤ c → HB B (eN m j).1
theorem Tame.e {m : Mat} {c : Nat} (h : Tame m c) : TameE m c := let ⟨B, h1, h2, _⟩ := h; ⟨B, h1, h2⟩
end Go.Lin


namespace Go.Lin
open Go.Lim
/-- The sum of the first k products. -/
def dotN (l m : List Rat) : Nat → Rat
  | 0 => 0
  | k + 1 => dotN l m k + l.getD k 0 * m.getD k 0
def dotL (l m : List Rat) : Rat := dotN l m l.length
theorem dotN_sm (l m : List Rat) (k : Nat) : dotN l m k = sm k fun q => l.getD q 0 * m.getD q 0 := by
  induction k with
  | zero => rfl
  | succ k ih => unfold dotN sm; rw [ih]
end Go.Lin


namespace Go.Proofs.YtjbhcniiioepgaaGreat
open Go.RowKit Go.Rep Go.Lim Go.Lin

end Go.Proofs.YtjbhcniiioepgaaGreat


namespace Go.Proofs.YtjbhcniiioepgaaGreat
open Go.RowKit Go.Rep Go.Lim Go.Lin

end Go.Proofs.YtjbhcniiioepgaaGreat


namespace Go.Lin
open Go.Lim
end Go.Lin
namespace Go.Proofs.YtjbhcniiioepgaaGreat
open Go.RowKit Go.Rep Go.Lim Go.Lin

end Go.Proofs.YtjbhcniiioepgaaGreat


namespace Go.Proofs.YtjbhcniiioepgaaGreat
open Go.RowKit Go.Rep Go.Lim Go.Lin

set_option maxRecDepth 100000 in
theorem hcentred (X : Nat → Bool) (w : World) (u v : Value) (p : List (List Rat)) (x : List Rat) (c : Nat) (hX : HX X w) (hu : MV (mk X w) u p) (hv : RV (mk X w) v x) (hsh : ∀ r ∈ p, r.length = c) (hx : x.length = c) (hc : c ≤ 1000) (hp : p.length ≤ 1000) : Calls Tryz.prog 129 #[u, v] w (ROut X w MC (fromM c p x)) := by
  obtain ⟨M, hM⟩ : ∃ M, fromM c p x = M := ⟨_, rfl⟩
  obtain ⟨n, hn⟩ : ∃ n, p.length = n := ⟨_, rfl⟩
  have hMl : Hid (M.length = n) := hid (by rw [← hM, ← hn]; simp [fromM])
  have hMr : Hid (∀ j (hj : j < p.length) (h : j < M.length), M[j] = List.zipWith (· - ·) p[j] x) := hid fun j hj h => by subst hM; exact from_get hsh hx j hj h
  have hMl2 : M.length ≤ n := by rw [hMl.out]; exact Nat.le_refl _
  have hMl3 : n ≤ M.length := by rw [hMl.out]; exact Nat.le_refl _
  obtain ⟨ua, uca, rfl, huca, hua⟩ := hu
  have hhu := hua.hd
  obtain ⟨va, vca, rfl, hvca, hva⟩ := hv
  have hn' := hid hn
  have hsh' := hid hsh
  have hx' := hid hx
  rw [hM]
  rw [hn] at hp huca hhu ⊢
  clear hM hn hsh hx
  go_enter Tryz.func129, Tryz.ntmps129
  go_wp2_with fail
  go_loopw [5, 10] (fun o cc wr => ∃ (i : Nat) (oo : Option Addr) (co : Nat), cc = .int .i64 i ∧ o = .slice oo i co ∧ i ≤ n ∧ OL RC 1 X w.heap.size 33 wr oo co (M.take i) ∧ Ext w wr) (fun _ cc _ => n - (intOf cc).toNat)
  case atStart => exact ⟨0, none, 0, rfl, rfl, Nat.zero_le _, OL.nil _ _ _ _ _ _, ExtX.refl _⟩
  case round =>
    obtain ⟨i, oo, co, rfl, rfl, hi, hO, hE⟩ := hrel
    have hXr : HX X wr := hX.ext hE
    have hXu : HX (un X oo) wr := hO.unX hXr
    have hbase := hE.size
    by_cases hlt : i < n
    · have him : i < p.length := by rw [hn'.out]; exact hlt
      have hltM : i < M.length := by omega
      have htk := hid (take_snoc M i hltM)
      have hln := hid (len_take (l := M) (i := i) (by omega))
      have hRd := hMr.out i him hltM
      have hsr : Sl RV 1 (mk (un X oo) wr) ua p := hua.old RV.mono hE (fun j hj => hO.ob_lt hj)
      have hvr : RV (mk (un X oo) wr) (.slice va x.length vca) x := old_un RV.mono ⟨va, vca, rfl, hvca, hva⟩ hE (fun j hj => hO.ob_lt hj)
      obtain ⟨a1, c1, hX1, hc1, hcl1, hq1⟩ := hsr.row i him
      have k00 := hc1.out noY wr (ExtX.refl _) rfl
      have hrl := hid (hsh'.out p[i] (List.getElem_mem _))
      have hmi := eminus (un X oo) wr _ _ p[i] x hXu ⟨a1, c1, rfl, hcl1, hq1⟩ hvr (by rw [hrl.out]; omega) (by rw [hrl.out, hx'.out])
      rw [← hRd] at hmi
      obtain ⟨R, hR⟩ : ∃ R, M[i] = R := ⟨_, rfl⟩
      rw [hR] at hmi htk
      clear hR hRd hc1
      go_wp2_with (with_reducible refine up_ix1 slRats (by omega) (by assumption) ?_)
      refine hmi.mono ?_
      rintro e w6 ⟨hE6, u6, rfl, ro, cr, rfl, hcr, hsR⟩
      have hRC : RC (mk (un X oo) w6) (.slice ro R.length cr) R := ⟨ro, cr, rfl, hcr, hsR⟩
      obtain ⟨k, hk⟩ : ∃ k, R.length = k := ⟨_, rfl⟩
      rw [hk] at hRC ⊢
      have hO6 := hO.ext0 RC.elem hE6
      have hb6 := hE6.size
      clear k00
      go_wp2_with (at_builtin; refine st_append1n (l := M.take i) slRats rfl RC.elem (by omega) (hXr.ext hE6) i hln.out rfl rfl hO6 (.slice ro k cr) R rfl hRC (by omega) (by omega) ?_; intro oo2 co2 w7 hO7 hE7 hor)
      have hE8 := (hE.trans hE6).own hO6 (Nat.le_refl _) hE7
      rw [htk.out] at hO7
      go_roundw
      case rel => exact ⟨i + 1, oo2, co2, by go_num, by go_num, by omega, hO7, hE8⟩
      case measure => simp [intOf]; omega
    · have hil : i = n := by omega
      subst hil
      rw [List.take_of_length_le (by omega)] at hO
      have hc := hO.lenCap
      have hs := hO.sl RC.elem
      go_wp2_with fail
      go_ret
      exact ⟨hE, _, rfl, oo, co, by rw [hMl.out]; rfl, hc, hs⟩
end Go.Proofs.YtjbhcniiioepgaaGreat


namespace Go.Proofs.YtjbhcniiioepgaaGreat
open Go.RowKit Go.Rep Go.Lim Go.Lin

set_option maxRecDepth 100000 in
set_option maxHeartbeats 1600000 in
theorem edot_any (X : Nat → Bool) (w : World) (u v : Value) (l m : List Rat) (hX : HX X w) (hu : RV (mk X w) u l) (hv : RV (mk X w) v m) (hn : l.length ≤ 1000000) (hml : m.length = l.length) (hb1 : ∀ k, k ≤ l.length → hq (dotN l m k) ≤ 68719476736) (hb2 : ∀ k, k < l.length → hq (l.getD k 0 * m.getD k 0) ≤ 68719476736) :
    Calls Tryz.prog 138 #[u, v] w (ROut X w QC (dotL l m)) := by
  obtain ⟨ao, ca, rfl, hca, hsa⟩ := hu
  obtain ⟨bo, cb, rfl, hcb, hsb⟩ := hv
  have hha := hsa.hd
  have hhb := hsb.hd
  obtain ⟨W, hW, hE, b0, b1, hz⟩ := boxes2 w #[.bool false, .slice none 0 0, .slice none 0 0] #[.bool false, .slice none 0 0, .slice none 0 0] 31 31
  have hXW : HX (hidB X w.heap.size 2) W := hX.boxes hz
  have h0 : QC (mk (hidB X w.heap.size 2) W) (.agg #[.bool false, .slice none 0 0, .slice none 0 0]) (dotN l m 0) := QC.zero _
  obtain ⟨n, hln⟩ : ∃ n, l.length = n := ⟨_, rfl⟩
  rw [hln] at hn hml hb1 hb2 hca hha ⊢
  rw [hml] at hcb hhb ⊢
  have hln' := hid hln
  have hml' := hid hml
  have hb1' := hid hb1
  have hb2' := hid hb2
  have hdot : Hid (dotN l m n = dotL l m) := hid (by unfold dotL; rw [hln])
  clear hln hml hb1 hb2
  go_enter Tryz.func138, Tryz.ntmps138
  go_wp2_with fail
  obtain ⟨b, hb⟩ : ∃ b, w.heap.size = b := ⟨_, rfl⟩
  have hle : Hid (∀ wr, Ext w wr → Le (mk X w) (mk (hidB X b 2) wr)) := hid fun wr h => by rw [← hb]; exact le_boxes h
  have hbw : w.heap.size ≤ b := by omega
  rw [hb] at b0 b1 hXW h0 ⊢
  clear hW
  go_loopw [9] (fun k wr => ∃ (i : Nat) (s : Bool) (a : Option Addr) (n' c' : Nat) (d : Option Addr) (kk e : Nat), k = .int .i64 i ∧ i ≤ n ∧ Bx wr b #[.bool false, .slice none 0 0, .slice none 0 0] 31 ∧ Bx wr (b + 1) #[.bool s, .slice a n' c', .slice d kk e] 31 ∧ QC (mk (hidB X b 2) wr) (.agg #[.bool s, .slice a n' c', .slice d kk e]) (dotN l m i) ∧ HX (hidB X b 2) wr ∧ Ext w wr) (fun k _ => n - (intOf k).toNat)
  case atStart => exact ⟨0, _, _, _, _, _, _, _, rfl, Nat.zero_le _, b0, b1, h0, hXW, hE⟩
  case round =>
    obtain ⟨i, s, a, n', c', d, kk, e, rfl, hi, b0, b1, hq, hXr, hEr⟩ := hrel
    by_cases hlt : i < n
    · have hil : i < l.length := by rw [hln'.out]; exact hlt
      have him : i < m.length := by rw [hml'.out]; exact hlt
      have hsr := hsa.mono QV.mono (hle.out wr hEr)
      have hsr2 := hsb.mono QV.mono (hle.out wr hEr)
      obtain ⟨g1, o1, s1, p1, n1, q1, d1, k1, e1, hg1, hX1, hc1, hq1⟩ := hsr.rat QV.shaped i hil
      obtain ⟨g2, o2, s2, p2, n2, q2, d2, k2, e2, hg2, hX2, hc2, hq2⟩ := hsr2.rat QV.shaped i him
      have gl : Hid (l.getD i 0 = l[i]) := hid (by simp [List.getD_eq_getElem?_getD, hil])
      have gm : Hid (m.getD i 0 = m[i]) := hid (by simp [List.getD_eq_getElem?_getD, him])
      have hst : Hid (dotN l m i + l[i] * m[i] = dotN l m (i + 1)) := hid (by rw [← gl.out, ← gm.out]; rfl)
      have hbo := hid (hb1'.out i hi)
      have hbp := hid (hb2'.out i hlt)
      rw [gl.out, gm.out] at hbp
      obtain ⟨x, hx⟩ : ∃ x, l[i] = x := ⟨_, rfl⟩
      obtain ⟨y, hy⟩ : ∃ y, m[i] = y := ⟨_, rfl⟩
      rw [hx, hy] at hst hbp
      rw [hx] at hq1
      rw [hy] at hq2
      have i1 : ∀ W, (Instr.indexAt 33 (.slice ao n ca) (.int .i64 (i : Int))).run Tryz.prog W = .ok (.pointer (some ⟨g1, o1, none⟩)) W := by rw [← hg1]; exact run_indexAt_adr slRat ao n ca .i64 i hha (by omega)
      have i2 : ∀ W, (Instr.indexAt 33 (.slice bo n cb) (.int .i64 (i : Int))).run Tryz.prog W = .ok (.pointer (some ⟨g2, o2, none⟩)) W := by rw [← hg2]; exact run_indexAt_adr slRat bo n cb .i64 i hhb (by omega)
      obtain ⟨D, hD⟩ : ∃ D, dotN l m i = D := ⟨_, rfl⟩
      obtain ⟨D2, hD2⟩ : ∃ D2, dotN l m (i + 1) = D2 := ⟨_, rfl⟩
      rw [hD] at hq hst hbo
      rw [hD2] at hst
      have hD2' := hid hD2
      clear hx hy hg1 hg2 hD hD2
      have hE5d : Ext wr wr.drew := (ExtX.refl wr).drew
      have b05 := b0.ext0 hE5d
      have b15 := b1.ext0 hE5d
      have k00 := b15.cell 0 rfl
      have k01 := b15.cell 1 rfl
      have k02 := b15.cell 2 rfl
      obtain ⟨k10, k11, k12⟩ := hc1.out noY wr.drew hE5d rfl
      obtain ⟨k20, k21, k22⟩ := hc2.out noY wr.drew hE5d rfl
      have hXd := hXr.ext hE5d
      have hx5 : QV (mk (hidB X b 2) wr.drew) (.agg #[.bool s1, .slice p1 n1 q1, .slice d1 k1 e1]) x := mkx QV.mono hq1 hE5d
      have hy5 : QV (mk (hidB X b 2) wr.drew) (.agg #[.bool s2, .slice p2 n2 q2, .slice d2 k2 e2]) y := mkx QV.mono hq2 hE5d
      have hq5 : QV (mk (hidB X b 2) wr.drew) (.agg #[.bool s, .slice a n' c', .slice d kk e]) D := (mkx QC.mono hq hE5d).qv hbo.out
      clear hc1 hc2
      go_wp2_with fail
      go_region_with (first | (go_at_call 98; (with_reducible refine (qmul (hidB X b 2) wr.drew _ _ _ _ hXd hx5 hy5).mono ?_); rintro ee w6 ⟨t1, u6, rfl, hu6⟩; obtain ⟨s6, a6, n6, c6, d6, k6, e6, rfl⟩ := hu6.shape; have hX6 := hXd.ext t1; have hq6 := mkx QV.mono hq5 t1; have hm6 := hu6.qv hbp.out; have b16 := b15.ext0 t1; have m0 := b16.cell 0 rfl; have m1 := b16.cell 1 rfl; have m2 := b16.cell 2 rfl) | (go_at_call 110; (with_reducible refine (qadd (hidB X b 2) w6 _ _ _ _ hX6 hq6 hm6).mono ?_); rintro ee w7 ⟨t7, u7, rfl, hu7⟩; obtain ⟨s7, a7, n7, c7, d7, k7, e7, rfl⟩ := hu7.shape; rw [hst.out] at hu7; have b17 := b16.ext0 t7; have g0 := b17.cell 0 rfl; have g1' := b17.cell 1 rfl; have g2' := b17.cell 2 rfl; have f0 := b17.frozen 0; have f1 := b17.frozen 1; have f2 := b17.frozen 2))
      all_goals
        obtain ⟨z1, z2⟩ := b17.set3 (.bool s7) (.slice a7 n7 c7) (.slice d7 k7 e7)
        have h8 := QC.mono _ _ _ _ (le_store (lo := b) (nb := 2) z2 (by omega) (by omega)) hu7
        have b08 := ((b05.ext0 t1).ext0 t7).ext z2 (ob_other (by omega))
        have hE8 : Ext w _ := ExtX.box (hEr.trans (hE5d.trans (t1.trans t7))) z2 (by omega)
        have hX8 := (hX6.ext t7).ext z2
        rw [← hD2'.out] at h8
        clear k00 k01 k02 k10 k11 k12 k20 k21 k22 m0 m1 m2 g0 g1' g2' f0 f1 f2 i1 i2
        go_wp2_with fail
        go_roundw
        case rel => exact ⟨i + 1, _, _, _, _, _, _, _, by go_num, by omega, b08, z1, h8, hX8, hE8⟩
        case measure => simp [intOf]; omega
    · have hin : i = n := by omega
      subst hin
      rw [hdot.out] at hq
      have k00 := b1.cell 0 rfl
      have k01 := b1.cell 1 rfl
      have k02 := b1.cell 2 rfl
      go_wp2_with ((with_reducible show wpList _ _ _ (⟨_, .store _ _ _, _, _, _, _⟩ :: _) _ _); refine st_storeBox stRat rfl rfl b0 rfl rfl (one3 _ _ _ _ _ _ _) ?_; intro w7 r1 r2)
      have h7 := QC.mono _ _ _ _ le_unbox (QC.mono _ _ _ _ (le_store r2 (by omega) (by omega)) hq)
      exact bodyPost_ret (results_box rfl rfl stRat r1 rfl) rfl ⟨ExtX.box hEr r2 (by omega), _, rfl, h7⟩
end Go.Proofs.YtjbhcniiioepgaaGreat


namespace Go.Lin
open Go.Lim
theorem HB.app {B : Nat} {a b : Mat} (ha : HB B a) (hb : HB B b) : HB B (a ++ b) := by
  intro i j
  unfold ent
  by_cases hi : i < a.length
  · rw [show (a ++ b).getD i [] = a.getD i [] by simp [List.getD_eq_getElem?_getD, List.getElem?_append_left hi]]; exact ha i j
  · rw [show (a ++ b).getD i [] = b.getD (i - a.length) [] by simp [List.getD_eq_getElem?_getD, List.getElem?_append_right (Nat.le_of_not_lt hi)]]; exact hb _ j
end Go.Lin


namespace Go.Lin
open Go.Rep
/-- All rows have the same number of elements, from low to high. -/
def sameB {α : Type} (m : List (List α)) (lo hi : Nat) : Bool := decide (∀ i (h : i < m.length), m[i].length = colsL m ∧ lo ≤ m[i].length ∧ m[i].length ≤ hi)
theorem sameB_true {α : Type} {m : List (List α)} {lo hi : Nat} : sameB m lo hi = true ↔ ∀ i (h : i < m.length), m[i].length = colsL m ∧ lo ≤ m[i].length ∧ m[i].length ≤ hi := by unfold sameB; simp
theorem sameB_false {α : Type} {m : List (List α)} {lo hi : Nat} (i : Nat) (h : i < m.length) (hn : ¬ (m[i].length = colsL m ∧ lo ≤ m[i].length ∧ m[i].length ≤ hi)) : false = sameB m lo hi := by
  symm
  cases hs : sameB m lo hi
  · rfl
  · exact absurd (sameB_true.1 hs i h) hn
/-- A list of rows is a list of points. -/
def ptsB {α : Type} (m : List (List α)) : Bool := decide (1 ≤ m.length) && (decide (m.length ≤ 64) && sameB m 1 3)
theorem ptsB_true {α : Type} {m : List (List α)} : ptsB m = true ↔ 1 ≤ m.length ∧ m.length ≤ 64 ∧ 1 ≤ colsL m ∧ colsL m ≤ 3 ∧ ∀ i (h : i < m.length), m[i].length = colsL m := by
  unfold ptsB
  simp only [Bool.and_eq_true, decide_eq_true_eq, sameB_true]
  constructor
  · rintro ⟨h1, h2, h3⟩
    have h4 := h3 0 (by omega)
    exact ⟨h1, h2, by omega, by omega, fun i h => (h3 i h).1⟩
  · rintro ⟨h1, h2, h3, h4, h5⟩
    exact ⟨h1, h2, fun i h => ⟨h5 i h, by rw [h5 i h]; exact h3, by rw [h5 i h]; exact h4⟩⟩
theorem ptsB_shp {m : Mat} (h : ptsB m = true) : Shp m.length (colsL m) m := by
  refine ⟨rfl, fun r hr => ?_⟩
  obtain ⟨i, hi, rfl⟩ := List.getElem_of_mem hr
  exact (ptsB_true.1 h).2.2.2.2 i hi
theorem ptsB_row {m : Mat} (h : ptsB m = true) : ∀ r ∈ m, r.length = colsL m := (ptsB_shp h).2
end Go.Lin
namespace Go.Proofs.YtjbhcniiioepgaaGreat
open Go.RowKit Go.Rep Go.Lim Go.Lin

set_option maxRecDepth 100000 in
theorem esame_any {R : Mem → Value → Rat → Prop} (X : Nat → Bool) (w : World) (u : Value) (m : List (List Rat)) (lo hi : Nat) (hu : SlV (SlV R 3) 1 (mk X w) u m) (hl : m.length ≤ 1099511627776) : Calls Tryz.prog 173 #[u, .int .i64 (lo : Int), .int .i64 (hi : Int)] w (fun e w' => w' = w ∧ e = .returned (.bool (sameB m lo hi))) := by
  obtain ⟨ao, ca, rfl, hca, hsa⟩ := hu
  have hha := hsa.hd
  go_enter Tryz.func173, Tryz.ntmps173
  go_wp2_with fail
  go_loop [11] (fun c => ∃ (i : Nat), c = .int .i64 i ∧ i ≤ m.length ∧ Hid (∀ q, q < i → ∀ hq : q < m.length, m[q].length = colsL m ∧ lo ≤ m[q].length ∧ m[q].length ≤ hi)) (fun c => m.length - (intOf c).toNat)
  case atStart => exact ⟨0, rfl, Nat.zero_le _, fun q hq => by omega⟩
  case round =>
    obtain ⟨i, rfl, hi', hok⟩ := hrel
    by_cases hlt : i < m.length
    · have h0 : 0 < m.length := by omega
      obtain ⟨a1, c1, hX1, hc1, hcl1, hq1⟩ := hsa.row i hlt
      obtain ⟨a2, c2, hX2, hc2, hcl2, hq2⟩ := hsa.row 0 h0
      have k00 := hc1.out noY w (ExtX.refl _) rfl
      have k10 := hc2.out noY w (ExtX.refl _) rfl
      have hcol := colsL_pos h0
      have hno := hid (sameB_false (lo := lo) (hi := hi) i hlt)
      rw [← hcol] at k10
      obtain ⟨x, hx⟩ : ∃ x, m[i].length = x := ⟨_, rfl⟩
      obtain ⟨y, hy⟩ : ∃ y, colsL m = y := ⟨_, rfl⟩
      rw [hx] at k00 hno
      rw [hy] at k10 hno
      have hst : Hid (x = y ∧ lo ≤ x ∧ x ≤ hi → ∀ hq : i < m.length, m[i].length = colsL m ∧ lo ≤ m[i].length ∧ m[i].length ≤ hi) := hid fun h hq => by rw [hx, hy]; exact h
      clear hx hy hcol hc1 hc2 hq1 hq2 hcl1 hcl2
      by_cases hxy : x = y
      · have d2 : ((x : Int) != (y : Int)) = false := bneF (by omega)
        by_cases hx0 : x < lo
        · have d0 : (x : Int) < (lo : Int) := by omega
          have hv := hid (hno.out (by omega))
          clear hxy
          go_wp2_with (with_reducible refine up_ix1 slRats (by omega) (by assumption) ?_)
          go_ret
          exact ⟨rfl, ret_bool hv.out⟩
        · have d0 : ¬ (x : Int) < (lo : Int) := by omega
          by_cases hx1 : hi < x
          · have d1 : (hi : Int) < (x : Int) := by omega
            have hv := hid (hno.out (by omega))
            clear hxy
            go_wp2_with (with_reducible refine up_ix1 slRats (by omega) (by assumption) ?_)
            go_ret
            exact ⟨rfl, ret_bool hv.out⟩
          · have d1 : ¬ (hi : Int) < (x : Int) := by omega
            have hst2 := hid (hst.out ⟨hxy, by omega, by omega⟩)
            clear hxy
            go_wp2_with (with_reducible refine up_ix1 slRats (by omega) (by assumption) ?_)
            go_round
            case rel => exact ⟨i + 1, by go_num, by omega, upto_succ hok.out hst2.out⟩
            case measure => simp [intOf]; omega
      · have d2 : ((x : Int) != (y : Int)) = true := bneT (by omega)
        have hv := hid (hno.out (by omega))
        clear hxy
        go_wp2_with (with_reducible refine up_ix1 slRats (by omega) (by assumption) ?_)
        go_ret
        exact ⟨rfl, ret_bool hv.out⟩
    · have hv : Hid (true = sameB m lo hi) := hid (by
        symm
        exact sameB_true.2 fun q hq => hok.out q (by omega) hq)
      go_wp2_with fail
      go_ret
      exact ⟨rfl, ret_bool hv.out⟩

theorem epoints_any {R : Mem → Value → Rat → Prop} (X : Nat → Bool) (w : World) (u : Value) (m : List (List Rat)) (hu : SlV (SlV R 3) 1 (mk X w) u m) (hl : m.length ≤ 1099511627776) : Calls Tryz.prog 117 #[u] w (fun e w' => w' = w ∧ e = .returned (.bool (ptsB m))) := by
  have hsa := esame_any X w u m 1 3 hu hl
  obtain ⟨ao, ca, rfl, hca, _⟩ := hu
  by_cases h1 : m.length < 1
  · have d1 : ¬ (1 : Int) ≤ (m.length : Int) := by omega
    have hv : Hid (false = ptsB m) := hid (by unfold ptsB; rw [decide_eq_false (by omega)]; rfl)
    go_enter Tryz.func117, Tryz.ntmps117
    go_wp2_with fail
    go_ret
    exact ⟨rfl, ret_bool hv.out⟩
  · have d1 : (1 : Int) ≤ (m.length : Int) := by omega
    by_cases h2 : m.length ≤ 64
    · have d2 : (m.length : Int) ≤ 64 := by omega
      have hv : Hid (sameB m 1 3 = ptsB m) := hid (by unfold ptsB; rw [decide_eq_true h2, decide_eq_true (by omega)]; rfl)
      go_enter Tryz.func117, Tryz.ntmps117
      go_wp2_with fail
      refine hsa.mono ?_
      rintro e w1 ⟨rfl, rfl⟩
      go_wp2_with fail
      go_ret
      exact ⟨rfl, ret_bool hv.out⟩
    · have d2 : ¬ (m.length : Int) ≤ 64 := by omega
      have hv : Hid (false = ptsB m) := hid (by unfold ptsB; rw [decide_eq_false h2, Bool.false_and, Bool.and_false])
      go_enter Tryz.func117, Tryz.ntmps117
      go_wp2_with fail
      go_ret
      exact ⟨rfl, ret_bool hv.out⟩

theorem hfits_any {R : Mem → Value → Rat → Prop} (X : Nat → Bool) (w : World) (u : Value) (m : List (List Rat)) (xo : Option Addr) (xl xc : Nat) (hu : SlV (SlV R 3) 1 (mk X w) u m) (hl : m.length ≤ 1099511627776) : Calls Tryz.prog 127 #[u, .slice xo xl xc] w (fun e w' => w' = w ∧ e = .returned (.bool (ptsB m && decide (xl = colsL m)))) := by
  have hpo := epoints_any X w u m hu hl
  obtain ⟨ao, ca, rfl, hca, hsa⟩ := hu
  have hha := hsa.hd
  cases hp : ptsB m
  · rw [hp] at hpo
    clear hp
    go_enter Tryz.func127, Tryz.ntmps127
    go_wp2_with fail
    refine hpo.mono ?_
    rintro e w1 ⟨rfl, rfl⟩
    go_wp2_with fail
    go_ret
    exact ⟨rfl, rfl⟩
  · have h0 : 0 < m.length := by have := (ptsB_true.1 hp).1; omega
    rw [hp] at hpo
    obtain ⟨a2, c2, hX2, hc2, hcl2, hq2⟩ := hsa.row 0 h0
    have k10 := hc2.out noY w (ExtX.refl _) rfl
    have hcol := colsL_pos h0
    rw [← hcol] at k10
    obtain ⟨y, hy⟩ : ∃ y, colsL m = y := ⟨_, rfl⟩
    rw [hy] at k10 ⊢
    clear hp hcol hy hc2 hq2 hcl2
    by_cases hxy : xl = y
    · have d2 : ((xl : Int) == (y : Int)) = true := beqT (by omega)
      have hv : Hid (true = (true && decide (xl = y))) := hid (by rw [decide_eq_true hxy]; rfl)
      clear hxy
      go_enter Tryz.func127, Tryz.ntmps127
      go_wp2_with fail
      refine hpo.mono ?_
      rintro e w1 ⟨rfl, rfl⟩
      go_wp2_with (with_reducible refine up_ix1 slRats (by omega) (by assumption) ?_)
      go_ret
      exact ⟨rfl, ret_bool hv.out⟩
    · have d2 : ((xl : Int) == (y : Int)) = false := beqF (by omega)
      have hv : Hid (false = (true && decide (xl = y))) := hid (by rw [decide_eq_false hxy]; rfl)
      clear hxy
      go_enter Tryz.func127, Tryz.ntmps127
      go_wp2_with fail
      refine hpo.mono ?_
      rintro e w1 ⟨rfl, rfl⟩
      go_wp2_with (with_reducible refine up_ix1 slRats (by omega) (by assumption) ?_)
      go_ret
      exact ⟨rfl, ret_bool hv.out⟩
end Go.Proofs.YtjbhcniiioepgaaGreat


namespace Go.Lin
open Go.Lim Go.Rep
theorem brD {D : Nat} {x : List Rat} (hx : BR D x) (hD : 1 ≤ D) (q : Nat) : hq (x.getD q 0) ≤ D := by
  rw [List.getD_eq_getElem?_getD]
  by_cases h : q < x.length
  · rw [List.getElem?_eq_getElem h]; exact hx _ (List.getElem_mem _)
  · rw [List.getElem?_eq_none (by omega)]; simp [hq_zero, hD]
theorem dot_bounds2 {B C : Nat} {l m : List Rat} (hl : BR B l) (hm : BR C m) (hB : 1 ≤ B) (hC : 1 ≤ C) (hB2 : 1 + l.length * (B + C + 1) ≤ 68719476736) :
    (∀ k, k ≤ l.length → hq (dotN l m k) ≤ 68719476736) ∧ ∀ k, k < l.length → hq (l.getD k 0 * m.getD k 0) ≤ 68719476736 := by
  have g : ∀ {D : Nat} {x : List Rat}, BR D x → 1 ≤ D → ∀ q, hq (x.getD q 0) ≤ D := fun hx hD q => brD hx hD q
  have hp : ∀ k, hq (l.getD k 0 * m.getD k 0) ≤ B + C := fun k => by
    have := hq_mul (l.getD k 0) (m.getD k 0); have := g hl hB k; have := g hm hC k; omega
  have hd : ∀ k, hq (dotN l m k) ≤ 1 + k * (B + C + 1) := fun k => by
    induction k with
    | zero => simp [dotN, hq_zero]
    | succ k ih =>
      have := hq_add (dotN l m k) (l.getD k 0 * m.getD k 0)
      have := hp k
      show hq (dotN l m k + l.getD k 0 * m.getD k 0) ≤ _
      rw [Nat.succ_mul]; omega
  refine ⟨fun k hk => Nat.le_trans (hd k) (Nat.le_trans (Nat.add_le_add_left (Nat.mul_le_mul_right _ hk) 1) hB2), fun k hk => ?_⟩
  have := hp k
  have : B + C + 1 ≤ l.length * (B + C + 1) := Nat.le_mul_of_pos_left _ (by omega)
  omega
theorem dot_vec {c : Nat} {u z : List Rat} (hu : u.length = c) : dotL u z = dot c (vec u) (vec z) := by
  unfold dotL; rw [dotN_sm, hu]; rfl
theorem fromM_bm {B : Nat} {p : Mat} {x : List Rat} {c : Nat} (hp : BM B p) (hx : BR B x) (hB : 1 ≤ B) : BM (2 * B + 1) (fromM c p x) := by
  have g : ∀ {x : List Rat}, BR B x → ∀ q, hq (x.getD q 0) ≤ B := fun hx q => brD hx hB q
  intro r hr q hq'
  unfold fromM at hr
  obtain ⟨s, hs, rfl⟩ := List.mem_map.1 hr
  obtain ⟨j, hj, rfl⟩ := List.mem_map.1 hq'
  have := hq_sub (s.getD j 0) (x.getD j 0)
  have := g (hp s hs) j
  have := g hx j
  omega
theorem sign_cases (x : Rat) : (0 < x ∧ x.num.sign = 1) ∨ (x = 0 ∧ x.num.sign = 0) ∨ (x < 0 ∧ x.num.sign = -1) := by
  have hn : 0 ≤ x.num ↔ 0 ≤ x := Rat.num_nonneg
  have hz : x.num = 0 ↔ x = 0 := Rat.num_eq_zero
  rcases Int.lt_trichotomy x.num 0 with h | h | h
  · refine .inr (.inr ⟨?_, Int.sign_eq_neg_one_of_neg h⟩)
    have : ¬ 0 ≤ x := fun h2 => by have := hn.2 h2; omega
    grind
  · exact .inr (.inl ⟨hz.1 h, by rw [h]; rfl⟩)
  · refine .inl ⟨?_, Int.sign_eq_one_of_pos h⟩
    have h1 : 0 ≤ x := hn.1 (by omega)
    have h2 : ¬ x = 0 := fun h2 => by have := hz.2 h2; omega
    grind
/-- The first i directions are at right angles to v. -/
def zeroTo (c : Nat) (us : List Vec) (v : Vec) (i : Nat) : Prop := ∀ j, j < i → ∀ h : j < us.length, dot c us[j] v = 0
theorem lexOk_pos {c : Nat} {v : Vec} : ∀ {us : List Vec} {i : Nat} (h : i < us.length), zeroTo c us v i → 0 < dot c us[i] v → lexOk c us v = true
  | [], _, h, _, _ => by simp at h
  | u :: us, 0, _, _, hp => by simp only [List.getElem_cons_zero] at hp; simp [lexOk, hp]
  | u :: us, i + 1, h, hz, hp => by
    have h0 : dot c u v = 0 := hz 0 (by omega) (by simp)
    have := lexOk_pos (us := us) (i := i) (by simpa using h) (fun j hj hl => hz (j + 1) (by omega) (by simpa using hl)) (by simpa using hp)
    simp [lexOk, h0, this]
theorem lexOk_neg {c : Nat} {v : Vec} : ∀ {us : List Vec} {i : Nat} (h : i < us.length), zeroTo c us v i → dot c us[i] v < 0 → lexOk c us v = false
  | [], _, h, _, _ => by simp at h
  | u :: us, 0, _, _, hp => by
    simp only [List.getElem_cons_zero] at hp
    have h1 : ¬ 0 < dot c u v := by grind
    have h2 : ¬ dot c u v = 0 := by grind
    simp [lexOk, h1, h2]
  | u :: us, i + 1, h, hz, hp => by
    have h0 : dot c u v = 0 := hz 0 (by omega) (by simp)
    have := lexOk_neg (us := us) (i := i) (by simpa using h) (fun j hj hl => hz (j + 1) (by omega) (by simpa using hl)) (by simpa using hp)
    have h1 : ¬ (0 : Rat) < 0 := by grind
    simp [lexOk, h0, this, h1]
theorem lexOk_all {c : Nat} {v : Vec} : ∀ {us : List Vec}, zeroTo c us v us.length → lexOk c us v = true
  | [], _ => rfl
  | u :: us, hz => by
    have h0 : dot c u v = 0 := hz 0 (by simp) (by simp)
    have := lexOk_all (us := us) (fun j hj hl => hz (j + 1) (by simpa using hj) (by simpa using hl))
    simp [lexOk, h0, this]
theorem zeroTo_succ {c : Nat} {us : List Vec} {v : Vec} {i : Nat} (h : zeroTo c us v i) (h2 : ∀ hi : i < us.length, dot c us[i] v = 0) : zeroTo c us v (i + 1) := fun j hj hl => by
  rcases Nat.lt_or_ge j i with h3 | h3
  · exact h j h3 hl
  · obtain rfl : j = i := by omega
    exact h2 hl
/-- How many of the first k vectors are on the side. -/
def lexN (c : Nat) (us z : List Vec) (k : Nat) : Nat := lexc c us (z.take k)
theorem lexN_zero (c : Nat) (us z : List Vec) : lexN c us z 0 = 0 := by simp [lexN, lexc]
theorem lexN_full {c : Nat} {us z : List Vec} {k : Nat} (h : z.length ≤ k) : lexN c us z k = lexc c us z := by unfold lexN; rw [List.take_of_length_le h]
theorem lexN_succ {c : Nat} {us z : List Vec} {k : Nat} (h : k < z.length) : lexN c us z (k + 1) = lexN c us z k + (if lexOk c us z[k] then 1 else 0) := by
  unfold lexN lexc
  rw [← List.take_append_getElem h, List.countP_append, List.countP_singleton]
theorem lexN_le (c : Nat) (us z : List Vec) (k : Nat) : lexN c us z k ≤ k := by
  unfold lexN lexc
  exact Nat.le_trans List.countP_le_length (by simp; omega)
/-- What Count returns: the arguments fit; the number. -/
def cntOk (p : Mat) (y : List Rat) (us : Mat) : Bool := ptsB p && (decide (y.length = colsL p) && decide (∀ i (h : i < us.length), us[i].length = y.length))
noncomputable def cntV (p : Mat) (y : List Rat) (us : Mat) : Nat := if cntOk p y us then lexc (colsL p) (vecs us) (vecs (fromM (colsL p) p y)) else 0
def okE (b : Bool) : Int := if b then 0 else 6
/-- Some direction is not 0. -/
def someNz (us : Mat) : Bool := us.any fun u => u.any fun q => decide (q ≠ 0)
end Go.Lin


namespace Go.Proofs.YtjbhcniiioepgaaGreat
open Go.RowKit Go.Rep Go.Lim Go.Lin
/-- A number and an error. -/
def NEOut (w : World) (n : Nat) (c : Int) (e : Ending) (w' : World) : Prop := Ext w w' ∧ e = .returned (.tuple #[.int .i64 (n : Int), .int .i64 c])
theorem cntOk_no1 {p : Mat} {y : List Rat} {us : Mat} (h : (ptsB p && decide (y.length = colsL p)) = false) : cntOk p y us = false := by
  unfold cntOk; rw [← Bool.and_assoc, h]; rfl
theorem cntOk_no2 {p : Mat} {y : List Rat} {us : Mat} (i : Nat) (hi : i < us.length) (h : us[i].length ≠ y.length) : cntOk p y us = false := by
  unfold cntOk
  rw [show decide (∀ i (h : i < us.length), us[i].length = y.length) = false from decide_eq_false fun hh => h (hh i hi)]
  simp
theorem cntOk_yes {p : Mat} {y : List Rat} {us : Mat} (h : (ptsB p && decide (y.length = colsL p)) = true) (h2 : ∀ i (hi : i < us.length), us[i].length = y.length) : cntOk p y us = true := by
  unfold cntOk; rw [← Bool.and_assoc, h, decide_eq_true h2]; rfl

set_option maxRecDepth 100000 in
set_option maxHeartbeats 1600000 in
theorem hcount_any (X : Nat → Bool) (w : World) (u v x : Value) (p : Mat) (y : List Rat) (us : Mat) (B C : Nat) (hX : HX X w) (hu : MV (mk X w) u p) (hv : RV (mk X w) v y) (hx : MV (mk X w) x us) (hp : p.length ≤ 1000) (hl : us.length ≤ 1000) (hpB : BM B p) (hyB : BR B y) (hC : BM C us) (hB : 1 ≤ B) (hC1 : 1 ≤ C) (hBC : 10 * (B + C) ≤ 68719476000) :
    Calls Tryz.prog 89 #[u, v, x] w (NEOut w (cntV p y us) (okE (cntOk p y us))) := by
  have hfit := fun xo xl xc => hfits_any X w u p xo xl xc hu (by omega)
  have hv0 := hv
  obtain ⟨va, vca, rfl, hvca, hva⟩ := hv
  have hfi := hfit va y.length vca
  clear hfit
  cases hok1 : (ptsB p && decide (y.length = colsL p))
  · rw [hok1] at hfi
    have hz := cntOk_no1 (us := us) hok1
    have hv1 : Hid (cntV p y us = 0) := hid (by unfold cntV; rw [hz]; rfl)
    have hv2 : Hid (okE (cntOk p y us) = 6) := hid (by rw [hz]; rfl)
    clear hz hok1
    go_enter Tryz.func89, Tryz.ntmps89
    go_wp2_with fail
    refine wp_scope_straight ?_
    go_wp2_with fail
    refine hfi.mono ?_
    rintro e w1 ⟨rfl, rfl⟩
    go_wp2_with fail
    go_ret2
    exact ⟨ExtX.refl _, by rw [hv1.out, hv2.out]; rfl⟩
  have hpts : ptsB p = true := by cases h : ptsB p; · rw [h] at hok1; simp at hok1
                                  · rfl
  have hyc : y.length = colsL p := by rw [hpts] at hok1; simpa using hok1
  rw [hok1] at hfi
  have hrow := ptsB_row hpts
  obtain ⟨hp1, hp64, hc1, hc3, _⟩ := ptsB_true.1 hpts
  obtain ⟨c, hc⟩ : ∃ c, colsL p = c := ⟨_, rfl⟩
  rw [hc] at hrow hyc hc1 hc3
  obtain ⟨M, hM⟩ : ∃ M, fromM c p y = M := ⟨_, rfl⟩
  have hMs : Shp p.length c M := by rw [← hM]; exact fromM_shp c p y
  have hcen := hcentred X w u (.slice va y.length vca) p y c hX hu hv0 hrow hyc (by omega) hp
  have hMB : BM (2 * (B + C) + 1) M := by
    rw [← hM]
    exact fromM_bm (fun r hr q hq => Nat.le_trans (hpB r hr q hq) (by omega)) (fun q hq => Nat.le_trans (hyB q hq) (by omega)) (by omega)
  have hok := hid (fun h => cntOk_yes (us := us) hok1 h)
  have hno := hid (fun i hi h => cntOk_no2 (p := p) (y := y) (us := us) i hi h)
  have hval : Hid (cntOk p y us = true → cntV p y us = lexc c (vecs us) (vecs M)) := hid fun h => by unfold cntV; rw [h, hc, hM]; rfl
  have hbad : Hid (cntOk p y us = false → cntV p y us = 0) := hid fun h => by unfold cntV; rw [h]; rfl
  rw [hM] at hcen
  rw [hyc] at hfi hcen hvca hno ⊢
  obtain ⟨K, hK⟩ : ∃ K, cntV p y us = K := ⟨_, rfl⟩
  obtain ⟨O, hO⟩ : ∃ O, cntOk p y us = O := ⟨_, rfl⟩
  have hyc' := hid hyc
  rw [hK, hO] at hval
  rw [hK, hO] at hbad
  rw [hO] at hok hno
  rw [hK, hO]
  obtain ⟨n, hn⟩ : ∃ n, us.length = n := ⟨_, rfl⟩
  have hn' := hid hn
  have hC' := hid hC
  have hMs' := hid hMs
  have hMB' := hid hMB
  obtain ⟨xa, xca, rfl, hxca, hxa⟩ := hx
  have hhx := hxa.hd
  rw [hn] at hl hxca hhx ⊢
  have hMl : M.length ≤ 64 := by rw [hMs.1]; exact hp64
  clear hK hO hM hpts hrow hyc hC hMs hMB hn hv0 hok1 hpB hyB hu hc
  go_enter Tryz.func89, Tryz.ntmps89
  go_wp2_with fail
  refine wp_scope_straight ?_
  go_wp2_with fail
  refine hfi.mono ?_
  rintro e w1 ⟨rfl, rfl⟩
  go_wp2_with fail
  go_loop [21] (fun cc => ∃ i : Nat, cc = .int .i64 i ∧ i ≤ n ∧ Hid (∀ q, q < i → ∀ hq : q < us.length, us[q].length = c)) (fun cc => n - (intOf cc).toNat)
  case atStart => exact ⟨0, rfl, Nat.zero_le _, hid fun q hq => by omega⟩
  case round =>
    obtain ⟨i, rfl, hi, hrl⟩ := hrel
    by_cases hlt : i < n
    · have hil : i < us.length := by rw [hn'.out]; exact hlt
      obtain ⟨a1, c1, hX1, hcc1, hcl1, hq1⟩ := hxa.row i hil
      have k00 := hcc1.out noY w1 (ExtX.refl _) rfl
      obtain ⟨r, hr⟩ : ∃ r, us[i].length = r := ⟨_, rfl⟩
      have hno1 := hid (hno.out i hil)
      have hnx : Hid (r = c → ∀ hq : i < us.length, us[i].length = c) := hid fun h hq => by rw [hr]; exact h
      rw [hr] at k00 hno1
      clear hr hcc1 hq1 hcl1
      by_cases hrc : r = c
      · have d1 : ((r : Int) != (c : Int)) = false := bneF (by omega)
        have hn2 := hid (hnx.out hrc)
        clear hrc
        go_wp2_with (with_reducible refine up_ix1 slRats (by omega) (by assumption) ?_)
        go_round
        case rel => exact ⟨i + 1, by go_num, by omega, hid (upto_succ hrl.out hn2.out)⟩
        case measure => simp [intOf]; omega
      · have d1 : ((r : Int) != (c : Int)) = true := bneT (by omega)
        have hO : Hid (O = false) := hid (hno1.out hrc)
        have hK : Hid (K = 0) := hid (hbad.out hO.out)
        clear hrc
        go_wp2_with (with_reducible refine up_ix1 slRats (by omega) (by assumption) ?_)
        go_ret2
        exact ⟨ExtX.refl _, by rw [hK.out, hO.out]; rfl⟩
    · have hin : i = n := by omega
      subst hin
      have hO : Hid (O = true) := hid (hok.out fun q hq => by rw [hyc'.out]; exact hrl.out q (by rw [hn'.out] at hq; exact hq) hq)
      have hKv : Hid (K = lexc c (vecs us) (vecs M)) := hid (hval.out hO.out)
      have hul : Hid (∀ q (hq : q < us.length), us[q].length = c) := hid fun q hq => hrl.out q (by rw [hn'.out] at hq; exact hq) hq
      clear hlt
      go_wp2_with fail
      refine wp_label ?_
      go_wp2_with fail
      refine hcen.mono ?_
      rintro e w2 ⟨hE2, _, rfl, ma, mca, rfl, hmca, hma⟩
      have hX2 := hX.ext hE2
      have hhm := hma.hd
      have hxa2 := hxa.mono RV.mono (mk_ext hE2)
      obtain ⟨m, hm⟩ : ∃ m, M.length = m := ⟨_, rfl⟩
      have hm' := hid hm
      rw [hm] at hMl hmca hhm ⊢
      clear hm hcen hfi hval hbad hok hno hrl
      obtain ⟨wo, hwo⟩ : ∃ wo, wo = w2 := ⟨_, rfl⟩
      subst hwo
      go_wp2_with fail
      go_loopw [10, 35] (fun nn cc wr => ∃ j : Nat, cc = .int .i64 j ∧ j ≤ m ∧ nn = .int .i64 (lexN c (vecs us) (vecs M) j : Int) ∧ Ext wo wr) (fun _ cc _ => m - (intOf cc).toNat)
      case atStart => exact ⟨0, rfl, Nat.zero_le _, by rw [lexN_zero]; rfl, ExtX.refl _⟩
      case round =>
        obtain ⟨j, rfl, hj, rfl, hEj⟩ := hrel
        by_cases hlj : j < m
        · have hjM : j < M.length := by rw [hm'.out]; exact hlj
          have hsr := hma.mono RC.mono (mk_ext hEj)
          obtain ⟨a1, c1, hX1, hcc1, hcl1, hq1⟩ := hsr.row j hjM
          have k00 := hcc1.out noY wr (ExtX.refl _) rfl
          have hzl := hid (hMs'.out.2 M[j] (List.getElem_mem _))
          have hzB := hid (hMB'.out M[j] (List.getElem_mem _))
          have hle := lexN_le c (vecs us) (vecs M) j
          have hsu : Hid (∀ b : Bool, lexOk c (vecs us) (vec M[j]) = b → lexN c (vecs us) (vecs M) (j + 1) = lexN c (vecs us) (vecs M) j + (if b then 1 else 0)) := hid fun b hb => by
            have h1 : j < (vecs M).length := by simpa [vecs] using hjM
            rw [lexN_succ h1]
            have h2 : (vecs M)[j] = vec M[j] := by simp [vecs]
            rw [h2, hb]
          obtain ⟨z, hz⟩ : ∃ z, M[j] = z := ⟨_, rfl⟩
          obtain ⟨L, hL⟩ : ∃ L, lexN c (vecs us) (vecs M) j = L := ⟨_, rfl⟩
          have hL' := hid hL
          rw [hz] at k00 hzl hzB hsu hq1 hcl1
          rw [hL] at hsu hle ⊢
          have hz0 : RV (mk X wr) (.slice a1 c c1) z := by
            have := RC.rv (u := .slice a1 c c1) ⟨a1, c1, by rw [hzl.out], hcl1, hq1⟩ (fun q hq => Nat.le_trans (hzB.out q hq) (by omega))
            exact this
          rw [hzl.out] at k00 hcl1
          clear hcc1 hz hL hq1
          go_wp2_with (with_reducible refine up_ix1 slRats (by omega) (by assumption) ?_)
          obtain ⟨wi, hwi⟩ : ∃ wi, wi = wr := ⟨_, rfl⟩
          subst hwi
          go_loopw [10, 41] (fun nn cc wx => ∃ k : Nat, cc = .int .i64 k ∧ k ≤ i ∧ nn = .int .i64 (L : Int) ∧ Hid (zeroTo c (vecs us) (vec z) k) ∧ Ext wi wx) (fun _ cc _ => i - (intOf cc).toNat)
          case atStart => exact ⟨0, rfl, Nat.zero_le _, rfl, hid fun q hq => by omega, ExtX.refl _⟩
          case round =>
            obtain ⟨k, rfl, hk, rfl, hzt, hEk⟩ := hrel
            clear k00
            have hEx := hEj.trans hEk
            have hXx := hX2.ext hEx
            have hzx := mkx RV.mono hz0 hEk
            by_cases hlk : k < i
            · have hku : k < us.length := by rw [hn'.out]; exact hlk
              have hsu2 := hxa2.mono RV.mono (mk_ext hEx)
              obtain ⟨a3, c3, hX3, hcc3, hcl3, hq3⟩ := hsu2.row k hku
              have k00 := hcc3.out noY wr (ExtX.refl _) rfl
              have hul2 := hid (hul.out k hku)
              have hkv : k < (vecs us).length := by simpa [vecs] using hku
              have hgv : (vecs us)[k] = vec us[k] := by simp [vecs]
              have hpos := hid (fun h => lexOk_pos (c := c) (v := vec z) hkv hzt.out h)
              have hneg := hid (fun h => lexOk_neg (c := c) (v := vec z) hkv hzt.out h)
              have hzer : Hid (dot c (vec us[k]) (vec z) = 0 → zeroTo c (vecs us) (vec z) (k + 1)) := hid fun h => zeroTo_succ hzt.out fun hi => by rw [hgv]; exact h
              rw [hgv] at hpos hneg
              have hdv := hid (dot_vec (u := us[k]) (z := z) hul2.out)
              have hCk := hC'.out us[k] (List.getElem_mem _)
              have hdb := dot_bounds2 (l := us[k]) (m := z) hCk hzB.out hC1 (by omega) (by
                rw [hul2.out]
                have : c * (C + (2 * (B + C) + 1) + 1) ≤ 3 * (C + (2 * (B + C) + 1) + 1) := Nat.mul_le_mul_right _ hc3
                omega)
              have hdot := edot_any X wr (.slice a3 us[k].length c3) (.slice a1 c c1) us[k] z hXx ⟨a3, c3, rfl, hcl3, hq3⟩ hzx (by rw [hul2.out]; omega) (by rw [hzl.out, hul2.out]) hdb.1 hdb.2
              have hdq : Hid (hq (dotL us[k] z) ≤ 68719476736) := hid (hdb.1 _ (Nat.le_refl _))
              rw [← hdv.out] at hpos hneg hzer
              rw [hul2.out] at k00 hdot
              obtain ⟨D, hD⟩ : ∃ D, dotL us[k] z = D := ⟨_, rfl⟩
              rw [hD] at hpos hneg hzer hdot hdq
              clear hcc3 hq3 hcl3 hgv hkv hdb hCk hD
              rcases sign_cases D with ⟨hs, hsg⟩ | ⟨hs, hsg⟩ | ⟨hs, hsg⟩
              · have hnx := hid (hsu.out true (hpos.out hs))
                have hsg' := hid hsg
                clear hs hsg
                go_wp2_with (with_reducible refine up_ix1 slRats (by omega) (by assumption) ?_)
                refine hdot.mono ?_
                rintro e w5 ⟨hE5, u5, rfl, hu5⟩
                go_wp2_with fail
                refine (qsign X w5 u5 D (hXx.ext hE5) (hu5.qv hdq.out)).mono ?_
                rintro e w6 ⟨hE6, rfl⟩
                rw [hsg'.out]
                have hE9 := hEx.trans (hE5.trans hE6)
                clear k00
                have hnx2 : Hid (Value.int .i64 ((L + 1 : Nat) : Int) = .int .i64 (lexN c (vecs us) (vecs M) (j + 1) : Int)) := hid (by rw [hnx.out]; rfl)
                go_wp2_with fail
                go_roundw
                case rel => exact ⟨j + 1, by go_num, by omega, by rw [← hnx2.out]; go_num, hE9⟩
                case measure => simp [intOf]; omega
              · have hnz := hid (hzer.out hs)
                have hsg' := hid hsg
                clear hs hsg
                go_wp2_with (with_reducible refine up_ix1 slRats (by omega) (by assumption) ?_)
                refine hdot.mono ?_
                rintro e w5 ⟨hE5, u5, rfl, hu5⟩
                go_wp2_with fail
                refine (qsign X w5 u5 D (hXx.ext hE5) (hu5.qv hdq.out)).mono ?_
                rintro e w6 ⟨hE6, rfl⟩
                rw [hsg'.out]
                have hE9 := hEk.trans (hE5.trans hE6)
                clear k00
                go_wp2_with fail
                go_roundw
                case rel => exact ⟨k + 1, by go_num, by omega, rfl, hnz, hE9⟩
                case measure => simp [intOf]; omega
              · have hnx := hid (hsu.out false (hneg.out hs))
                have hsg' := hid hsg
                clear hs hsg
                go_wp2_with (with_reducible refine up_ix1 slRats (by omega) (by assumption) ?_)
                refine hdot.mono ?_
                rintro e w5 ⟨hE5, u5, rfl, hu5⟩
                go_wp2_with fail
                refine (qsign X w5 u5 D (hXx.ext hE5) (hu5.qv hdq.out)).mono ?_
                rintro e w6 ⟨hE6, rfl⟩
                rw [hsg'.out]
                have hE9 := hEx.trans (hE5.trans hE6)
                clear k00
                have hnx2 : Hid (Value.int .i64 (L : Int) = .int .i64 (lexN c (vecs us) (vecs M) (j + 1) : Int)) := hid (by rw [hnx.out]; rfl)
                go_wp2_with fail
                go_roundw
                case rel => exact ⟨j + 1, by go_num, by omega, hnx2.out, hE9⟩
                case measure => simp [intOf]; omega
            · have hal : Hid (lexOk c (vecs us) (vec z) = true) := hid (lexOk_all fun q hq hl => hzt.out q (by
                have : (vecs us).length = us.length := by simp [vecs]
                have := hn'.out
                omega) hl)
              have hnx := hid (hsu.out true hal.out)
              have hnx2 : Hid (Value.int .i64 ((L + 1 : Nat) : Int) = .int .i64 (lexN c (vecs us) (vecs M) (j + 1) : Int)) := hid (by rw [hnx.out]; rfl)
              go_wp2_with fail
              go_roundw
              case rel => exact ⟨j + 1, by go_num, by omega, by rw [← hnx2.out]; go_num, hEx⟩
              case measure => simp [intOf]; omega
        · have hjm : j = m := by omega
          have hfull : Hid (lexN c (vecs us) (vecs M) j = K) := hid (by
            rw [hKv.out, lexN_full (by have := hm'.out; simp [vecs]; omega)])
          go_wp2_with fail
          go_ret2
          exact ⟨hE2.trans hEj, by rw [hfull.out, hO.out]; rfl⟩
end Go.Proofs.YtjbhcniiioepgaaGreat


namespace Go.Proofs.YtjbhcniiioepgaaGreat
open Go.RowKit Go.Rep Go.Lim Go.Lin
/-- What Halfspace of both texts returns. -/
noncomputable def halfB (p : Mat) (y : List Rat) (most : Int) (us : Mat) : Bool := cntOk p y us && (decide ((cntV p y us : Int) ≤ most) && someNz us)
theorem someNz_no {us : Mat} (h : ∀ q (h : q < us.length), ∀ k (hk : k < us[q].length), us[q][k] = 0) : someNz us = false := by
  unfold someNz
  rw [List.any_eq_false]
  intro u hu
  rw [Bool.not_eq_true, List.any_eq_false]
  intro x hx
  obtain ⟨q, hq, rfl⟩ := List.getElem_of_mem hu
  obtain ⟨k, hk, rfl⟩ := List.getElem_of_mem hx
  simp [h q hq k hk]
theorem someNz_yes {us : Mat} {q k : Nat} (hq : q < us.length) (hk : k < us[q].length) (h : us[q][k] ≠ 0) : someNz us = true := by
  unfold someNz
  rw [List.any_eq_true]
  refine ⟨us[q], List.getElem_mem _, ?_⟩
  rw [List.any_eq_true]
  exact ⟨us[q][k], List.getElem_mem _, by simpa using h⟩

set_option maxRecDepth 100000 in
set_option maxHeartbeats 1600000 in
theorem chalf_any (X : Nat → Bool) (w : World) (u v x : Value) (p : Mat) (y : List Rat) (most : Int) (us : Mat) (B C : Nat) (hX : HX X w) (hu : MV (mk X w) u p) (hv : RV (mk X w) v y) (hx : MV (mk X w) x us) (hp : p.length ≤ 1000) (hl : us.length ≤ 1000) (hrl : ∀ r ∈ us, r.length ≤ 1000) (hpB : BM B p) (hyB : BR B y) (hC : BM C us) (hB : 1 ≤ B) (hC1 : 1 ≤ C) (hBC : 10 * (B + C) ≤ 68719476000) :
    Calls Tryz.prog 30 #[u, v, .int .i64 most, x] w (BOut w (halfB p y most us)) := by
  have hco := hcount_any X w u v x p y us B C hX hu hv hx hp hl hpB hyB hC hB hC1 hBC
  obtain ⟨va, vca, rfl, hvca, hva⟩ := hv
  obtain ⟨xa, xca, rfl, hxca, hxa⟩ := hx
  obtain ⟨ua, uca, rfl, huca, hua⟩ := hu
  have hhx := hxa.hd
  cases hok : cntOk p y us
  · have hf : Hid (false = halfB p y most us) := hid (by unfold halfB; rw [hok]; rfl)
    have he : Hid (okE (cntOk p y us) = 6) := hid (by rw [hok]; rfl)
    rw [hok] at hco
    rw [show okE false = 6 from rfl] at hco
    clear hok
    go_enter Tryz.func30, Tryz.ntmps30
    go_wp2_with fail
    refine hco.mono ?_
    rintro e w1 ⟨hE1, rfl⟩
    go_wp2_with fail
    go_ret
    exact ⟨hE1, ret_bool hf.out⟩
  rw [hok] at hco
  rw [show okE true = 0 from rfl] at hco
  have hfv : Hid (halfB p y most us = (decide ((cntV p y us : Int) ≤ most) && someNz us)) := hid (by unfold halfB; rw [hok]; rfl)
  obtain ⟨K, hK⟩ : ∃ K, cntV p y us = K := ⟨_, rfl⟩
  rw [hK] at hco hfv
  obtain ⟨HB, hHB⟩ : ∃ b, halfB p y most us = b := ⟨_, rfl⟩
  rw [hHB] at hfv ⊢
  clear hok hK hHB
  by_cases hm : most < (K : Int)
  · have hf : Hid (false = HB) := hid (by rw [hfv.out, decide_eq_false (by omega)]; rfl)
    clear hfv
    go_enter Tryz.func30, Tryz.ntmps30
    go_wp2_with fail
    refine hco.mono ?_
    rintro e w1 ⟨hE1, rfl⟩
    go_wp2_with fail
    go_ret
    exact ⟨hE1, ret_bool hf.out⟩
  have hf : Hid (someNz us = HB) := hid (by rw [hfv.out, decide_eq_true (by omega)]; rfl)
  clear hfv
  obtain ⟨n, hn⟩ : ∃ n, us.length = n := ⟨_, rfl⟩
  have hn' := hid hn
  have hrl' := hid hrl
  have hno : Hid ((∀ q (h : q < us.length), ∀ k (hk : k < us[q].length), us[q][k] = 0) → false = someNz us) := hid fun h => (someNz_no h).symm
  have hye : Hid (∀ q (h : q < us.length) k (hk : k < us[q].length), us[q][k] ≠ 0 → true = someNz us) := hid fun q h k hk hne => (someNz_yes h hk hne).symm
  rw [hn] at hxca hhx hco hl ⊢
  clear hn hrl
  go_enter Tryz.func30, Tryz.ntmps30
  go_wp2_with fail
  refine hco.mono ?_
  rintro e w1 ⟨hE1, rfl⟩
  clear hco
  go_wp2_with fail
  have hX1 := hX.ext hE1
  have hxa1 := hxa.mono RV.mono (mk_ext hE1)
  go_loopw [31] (fun cc wr => ∃ i : Nat, cc = .int .i64 i ∧ i ≤ n ∧ Hid (∀ q (h : q < us.length), q < i → ∀ k (hk : k < us[q].length), us[q][k] = 0) ∧ Ext w1 wr) (fun cc _ => n - (intOf cc).toNat)
  case atStart => exact ⟨0, rfl, Nat.zero_le _, hid (fun q h hq => by omega), ExtX.refl _⟩
  case round =>
    obtain ⟨i, rfl, hi, hz, hE⟩ := hrel
    by_cases hlt : i < n
    · have hil : i < us.length := by rw [hn'.out]; exact hlt
      have hsr := hxa1.mono RV.mono (mk_ext hE)
      obtain ⟨a1, c1, hXa, hc1, hcl1, hq1⟩ := hsr.row i hil
      have k00 := hc1.out noY wr (ExtX.refl _) rfl
      have hye1 := hid (hye.out i hil)
      have hz1 : Hid ((∀ k (hk : k < us[i].length), us[i][k] = 0) → ∀ q (h : q < us.length), q < i + 1 → ∀ k (hk : k < us[q].length), us[q][k] = 0) := hid fun h q hq hqi => by
        by_cases e : q = i
        · subst e; exact h
        · exact hz.out q hq (by omega)
      have hrl1 := hrl'.out us[i] (List.getElem_mem _)
      obtain ⟨r, hr⟩ : ∃ r, us[i] = r := ⟨_, rfl⟩
      have hye1 : Hid (∀ k (hk : k < r.length), r[k] ≠ 0 → true = someNz us) := by subst hr; exact hye1
      have hz1 : Hid ((∀ k (hk : k < r.length), r[k] = 0) → ∀ q (h : q < us.length), q < i + 1 → ∀ k (hk : k < us[q].length), us[q][k] = 0) := by subst hr; exact hz1
      rw [hr] at k00 hcl1 hq1 hrl1
      have hh1 := hq1.hd
      obtain ⟨c, hc⟩ : ∃ c, r.length = c := ⟨_, rfl⟩
      have hc' := hid hc
      rw [hc] at k00 hcl1 hh1 hrl1
      clear hc1 hr hc
      go_wp2_with (with_reducible refine up_ix1 slRats (by omega) (by assumption) ?_)
      obtain ⟨wo, hwo⟩ : ∃ wo, wo = wr := ⟨_, rfl⟩
      subst hwo
      go_loopw [37] (fun cc wx => ∃ j : Nat, cc = .int .i64 j ∧ j ≤ c ∧ Hid (∀ k (hk : k < r.length), k < j → r[k] = 0) ∧ Ext wo wx) (fun cc _ => c - (intOf cc).toNat)
      case atStart => exact ⟨0, rfl, Nat.zero_le _, hid (fun p hp h => by omega), ExtX.refl _⟩
      case round =>
        obtain ⟨j, rfl, hj, hzj, hEj⟩ := hrel
        by_cases hlj : j < c
        · have hjr : j < r.length := by rw [hc'.out]; exact hlj
          have hq2 := hq1.mono QV.mono (mk_ext hEj)
          have hXr := hX1.ext (hE.trans hEj)
          have bx := Bx.new wr #[.bool false, .slice none 0 0, .slice none 0 0] 31
          have hye2 := hid (hye1.out j hjr)
          have hzj2 : Hid (r[j] = 0 → ∀ k (hk : k < r.length), k < j + 1 → r[k] = 0) := hid fun h k hk hkj => by
            by_cases e : k = j
            · subst e; exact h
            · exact hzj.out k hk (by omega)
          clear k00
          go_wp2_with (first | (with_reducible refine up_ixn slRat (by omega) (by assumption) ?_) | ((with_reducible show wpList _ _ _ (⟨_, .load 31 _, _, _, _, _⟩ :: _) _ _); refine st_loadElem stRat j hq2 hjr rfl (by simp) QV.agg ?_; intro u5 hu5; obtain ⟨s5, a5, n5, c5, d5, m5, e5, rfl⟩ := hu5.shape) | ((with_reducible show wpList _ _ _ (⟨_, .store _ _ _, _, _, _, _⟩ :: _) _ _); refine st_storeBox stRat rfl rfl bx rfl rfl (one3 _ _ _ _ _ _ _) ?_; intro w5 r1 r2; have hE5 : Ext wr w5 := ExtX.box ((ExtX.refl wr).alloc _) r2 (Nat.le_refl _); have k10 := r1.cell 0 rfl; have k11 := r1.cell 1 rfl; have k12 := r1.cell 2 rfl; have hX5 := hXr.ext hE5; have hu6 := mkx QV.mono hu5 hE5))
          refine (qsign X _ _ _ hX5 hu6).mono ?_
          rintro e w7 ⟨hE7, rfl⟩
          have hE9 := hEj.trans (hE5.trans hE7)
          clear k10 k11 k12
          rcases sign_cases r[j] with ⟨hs, hsg⟩ | ⟨hs, hsg⟩ | ⟨hs, hsg⟩
          · have hv := hid (hye2.out (by intro h; rw [h] at hs; exact absurd hs (by grind)))
            rw [hsg]
            clear hs hsg
            go_wp2_with fail
            go_ret
            exact ⟨hE1.trans (hE.trans hE9), ret_bool (hv.out.trans hf.out)⟩
          · have hnx := hid (hzj2.out hs)
            rw [hsg]
            clear hs hsg
            go_wp2_with fail
            go_roundw
            case rel => exact ⟨j + 1, by go_num, by omega, hnx, hE9⟩
            case measure => simp [intOf]; omega
          · have hv := hid (hye2.out (by intro h; rw [h] at hs; exact absurd hs (by grind)))
            rw [hsg]
            clear hs hsg
            go_wp2_with fail
            go_ret
            exact ⟨hE1.trans (hE.trans hE9), ret_bool (hv.out.trans hf.out)⟩
        · have hnext := hid (hz1.out fun k hk => hzj.out k hk (by rw [hc'.out] at hk; omega))
          have hE9 := hE.trans hEj
          clear k00
          go_wp2_with fail
          go_roundw
          case rel => exact ⟨i + 1, by go_num, by omega, hnext, hE9⟩
          case measure => simp [intOf]; omega
    · have hv := hid ((hno.out fun q h => hz.out q h (by rw [hn'.out] at h; omega)).trans hf.out)
      go_wp2_with fail
      go_ret
      exact ⟨hE1.trans hE, ret_bool hv.out⟩
end Go.Proofs.YtjbhcniiioepgaaGreat


namespace Go.Proofs.YtjbhcniiioepgaaGreat
open Go.RowKit Go.Rep Go.Lim

set_option maxRecDepth 100000 in
theorem rminus23 (X : Nat → Bool) (w : World) (u v : Value) (l m : List Rat) (hX : HX X w) (hu : RV (mk X w) u l) (hv : RV (mk X w) v m) (hl : l.length ≤ 1000000) (hml : m.length = l.length) : Calls Tryz.prog 182 #[u, v] w (ROut X w RC (List.zipWith (· - ·) l m)) := by
  obtain ⟨ao, ca, rfl, hca, hsa⟩ := hu
  have hha := hsa.hd
  obtain ⟨bo, cb, rfl, hcb, hsb⟩ := hv
  have hhb := hsb.hd
  have hml1 : m.length ≤ l.length := by omega
  have hml2 : l.length ≤ m.length := by omega
  obtain ⟨L, hL⟩ : ∃ L, List.zipWith (· - ·) l m = L := ⟨_, rfl⟩
  have hLl : L.length = l.length := by rw [← hL]; simp; omega
  have hLi := hid (show ∀ i (hi : i < l.length) (hj : i < m.length) (hi' : i < L.length), L[i] = l[i] - m[i] from fun i hi hj hi' => by subst hL; simp)
  rw [hL]
  have hLl1 : L.length ≤ l.length := by omega
  have hLl2 : l.length ≤ L.length := by omega
  have hLl' := hid hLl
  clear hL hml hLl
  go_enter Tryz.func182, Tryz.ntmps182
  go_wp2_with fail
  go_loopw [5, 9] (fun o cc wr => ∃ (i : Nat) (oo : Option Addr) (co : Nat), cc = .int .i64 i ∧ o = .slice oo i co ∧ i ≤ l.length ∧ OL QC 3 X w.heap.size 31 wr oo co (L.take i) ∧ Ext w wr) (fun _ cc _ => l.length - (intOf cc).toNat)
  case atStart => exact ⟨0, none, 0, rfl, rfl, Nat.zero_le _, OL.nil _ _ _ _ _ _, ExtX.refl _⟩
  case round =>
    obtain ⟨i, oo, co, rfl, rfl, hi, hO, hE⟩ := hrel
    have hXr : HX X wr := hX.ext hE
    have hXu : HX (un X oo) wr := hO.unX hXr
    have hbase := hE.size
    by_cases hlt : i < l.length
    · have hsr : Sl QV 3 (mk (un X oo) wr) ao l := hsa.old QV.mono hE (fun j hj => hO.ob_lt hj)
      have hltL : i < L.length := by omega
      have htk := hid (take_snoc L i hltL)
      have hln := hid (len_take (l := L) (i := i) (by omega))
      have hltm : i < m.length := by omega
      have hsr2 : Sl QV 3 (mk (un X oo) wr) bo m := hsb.old QV.mono hE (fun j hj => hO.ob_lt hj)
      obtain ⟨g2, o2, s2, a2, n2, c2, d2, k2, e2, hg2, hX2, hc2, hq2⟩ := hsr2.rat QV.shaped i hltm
      obtain ⟨g1, o1, s1, a1, n1, c1, d1, k1, e1, hg1, hX1, hc1, hq1⟩ := hsr.rat QV.shaped i hlt
      have hob1 := (un_false hX1).2
      have hobb := (un_false hX2).2
      have i2 : ∀ W, (Instr.indexAt 33 (.slice bo m.length cb) (.int .i64 (i : Int))).run Tryz.prog W = .ok (.pointer (some ⟨g2, o2, none⟩)) W := by rw [← hg2]; exact run_indexAt_adr slRat bo m.length cb .i64 i hhb (by omega)
      have i1 : ∀ W, (Instr.indexAt 33 (.slice ao l.length ca) (.int .i64 (i : Int))).run Tryz.prog W = .ok (.pointer (some ⟨g1, o1, none⟩)) W := by rw [← hg1]; exact run_indexAt_adr slRat ao l.length ca .i64 i hha (by omega)
      have hEd : Ext wr wr.drew := (ExtX.refl wr).drew
      have hS : Hid (∀ Y W', ExtX Y wr.drew W' → Y g1 = false → Y g2 = false → W'.cell? ⟨g1, o1, none⟩ = some (.bool s1) ∧ W'.cell? ⟨g1, o1 + 1, none⟩ = some (.slice a1 n1 c1) ∧ W'.cell? ⟨g1, o1 + 2, none⟩ = some (.slice d1 k1 e1) ∧ W'.cell? ⟨g2, o2, none⟩ = some (.bool s2) ∧ W'.cell? ⟨g2, o2 + 1, none⟩ = some (.slice a2 n2 c2) ∧ W'.cell? ⟨g2, o2 + 2, none⟩ = some (.slice d2 k2 e2)) := hid fun Y W' h hg hb => by
        have p1 := hc1.out Y W' ((ExtX.of hEd).trans h) hg
        have p2 := hc2.out Y W' ((ExtX.of hEd).trans h) hb
        exact ⟨p1.1, p1.2.1, p1.2.2, p2.1, p2.2.1, p2.2.2⟩
      obtain ⟨k00, k01, k02, k10, k11, k12⟩ := hS.out noY wr.drew (ExtX.refl _) rfl rfl
      have hxd : QV (mk (un X oo) wr.drew) (.agg #[.bool s1, .slice a1 n1 c1, .slice d1 k1 e1]) l[i] := hq1
      have hvd : QV (mk (un X oo) wr.drew) (.agg #[.bool s2, .slice a2 n2 c2, .slice d2 k2 e2]) m[i] := hq2
      have hXd : HX (un X oo) wr.drew := hXu
      have hyi := hLi.out i hlt hltm hltL
      rw [hyi] at htk
      clear hc1 hg1 hq1 hc2 hg2 hq2
      go_wp2_with fail
      go_region_held3 (fun w' => w'.cell? ⟨g1, o1, none⟩ = some (.bool s1) ∧ w'.cell? ⟨g1, o1 + 1, none⟩ = some (.slice a1 n1 c1) ∧ w'.cell? ⟨g1, o1 + 2, none⟩ = some (.slice d1 k1 e1) ∧ w'.cell? ⟨g2, o2, none⟩ = some (.bool s2) ∧ w'.cell? ⟨g2, o2 + 1, none⟩ = some (.slice a2 n2 c2) ∧ w'.cell? ⟨g2, o2 + 2, none⟩ = some (.slice d2 k2 e2))
        (first | exact hS.out noY _ t1 rfl rfl | exact hS.out noY _ (ExtX.alloc t1 _) rfl rfl | exact hS.out (ob oo) _ ((ExtX.of t1).trans hE7) hob1 hobb | go_keep)
        (first | (go_at_call 76; (with_reducible refine (rqsub (un X oo) wr.drew _ _ _ _ hXd hxd hvd).mono ?_); rintro ee w6 ⟨t1, u6, rfl, hu6⟩; obtain ⟨s6, a6, n6, c6, d6, k6, e6, rfl⟩ := hu6.shape; have hO6 := hO.ext0 QC.elem (hEd.trans t1); have hb6 := (hEd.trans t1).size; have hX6 := hXr.ext (hEd.trans t1)) | (refine step_append1 (l := L.take i) rfl (by rfl) slRat rfl QC.elem (by omega) hX6 i hln.out rfl rfl hO6 (.agg #[.bool s6, .slice a6 n6 c6, .slice d6 k6 e6]) (l[i] - m[i]) rfl hu6 (by omega) (by omega) ?_; intro oo2 co2 w7 hO7 hE7 hor))
      have hE8 := (hE.trans (hEd.trans t1)).own hO6 (Nat.le_refl _) hE7
      rw [htk.out] at hO7
      clear k00 k01 k02 k10 k11 k12
      go_wp2_with fail
      go_roundw
      case rel => exact ⟨i + 1, oo2, co2, by go_num, by go_num, by omega, hO7, hE8⟩
      case measure => simp [intOf]; omega
    · have hil : i = l.length := by omega
      subst hil
      rw [List.take_of_length_le (by omega)] at hO
      have hc := hO.lenCap
      have hs := hO.sl QC.elem
      go_wp2_with fail
      go_ret
      exact ⟨hE, _, rfl, oo, co, by rw [hLl'.out]; rfl, hc, hs⟩
end Go.Proofs.YtjbhcniiioepgaaGreat


namespace Go.Proofs.YtjbhcniiioepgaaGreat
open Go.RowKit Go.Rep Go.Lim Go.Lin

set_option maxRecDepth 100000 in
theorem rfrom25 (X : Nat → Bool) (w : World) (u v : Value) (p : List (List Rat)) (x : List Rat) (c : Nat) (hX : HX X w) (hu : MV (mk X w) u p) (hv : RV (mk X w) v x) (hsh : ∀ r ∈ p, r.length = c) (hx : x.length = c) (hc : c ≤ 1000) (hp : p.length ≤ 1000) : Calls Tryz.prog 131 #[u, v] w (ROut X w MC (fromM c p x)) := by
  obtain ⟨M, hM⟩ : ∃ M, fromM c p x = M := ⟨_, rfl⟩
  obtain ⟨n, hn⟩ : ∃ n, p.length = n := ⟨_, rfl⟩
  have hMl : Hid (M.length = n) := hid (by rw [← hM, ← hn]; simp [fromM])
  have hMr : Hid (∀ j (hj : j < p.length) (h : j < M.length), M[j] = List.zipWith (· - ·) p[j] x) := hid fun j hj h => by subst hM; exact from_get hsh hx j hj h
  have hMl2 : M.length ≤ n := by rw [hMl.out]; exact Nat.le_refl _
  have hMl3 : n ≤ M.length := by rw [hMl.out]; exact Nat.le_refl _
  obtain ⟨ua, uca, rfl, huca, hua⟩ := hu
  have hhu := hua.hd
  obtain ⟨va, vca, rfl, hvca, hva⟩ := hv
  have hn' := hid hn
  have hsh' := hid hsh
  have hx' := hid hx
  rw [hM]
  rw [hn] at hp huca hhu ⊢
  clear hM hn hsh hx
  go_enter Tryz.func131, Tryz.ntmps131
  go_wp2_with fail
  go_loopw [5, 10] (fun o cc wr => ∃ (i : Nat) (oo : Option Addr) (co : Nat), cc = .int .i64 i ∧ o = .slice oo i co ∧ i ≤ n ∧ OL RC 1 X w.heap.size 33 wr oo co (M.take i) ∧ Ext w wr) (fun _ cc _ => n - (intOf cc).toNat)
  case atStart => exact ⟨0, none, 0, rfl, rfl, Nat.zero_le _, OL.nil _ _ _ _ _ _, ExtX.refl _⟩
  case round =>
    obtain ⟨i, oo, co, rfl, rfl, hi, hO, hE⟩ := hrel
    have hXr : HX X wr := hX.ext hE
    have hXu : HX (un X oo) wr := hO.unX hXr
    have hbase := hE.size
    by_cases hlt : i < n
    · have him : i < p.length := by rw [hn'.out]; exact hlt
      have hltM : i < M.length := by omega
      have htk := hid (take_snoc M i hltM)
      have hln := hid (len_take (l := M) (i := i) (by omega))
      have hRd := hMr.out i him hltM
      have hsr : Sl RV 1 (mk (un X oo) wr) ua p := hua.old RV.mono hE (fun j hj => hO.ob_lt hj)
      have hvr : RV (mk (un X oo) wr) (.slice va x.length vca) x := old_un RV.mono ⟨va, vca, rfl, hvca, hva⟩ hE (fun j hj => hO.ob_lt hj)
      obtain ⟨a1, c1, hX1, hc1, hcl1, hq1⟩ := hsr.row i him
      have k00 := hc1.out noY wr (ExtX.refl _) rfl
      have hrl := hid (hsh'.out p[i] (List.getElem_mem _))
      have hmi := rminus23 (un X oo) wr _ _ p[i] x hXu ⟨a1, c1, rfl, hcl1, hq1⟩ hvr (by rw [hrl.out]; omega) (by rw [hrl.out, hx'.out])
      rw [← hRd] at hmi
      obtain ⟨R, hR⟩ : ∃ R, M[i] = R := ⟨_, rfl⟩
      rw [hR] at hmi htk
      clear hR hRd hc1
      go_wp2_with (with_reducible refine up_ix1 slRats (by omega) (by assumption) ?_)
      refine hmi.mono ?_
      rintro e w6 ⟨hE6, u6, rfl, ro, cr, rfl, hcr, hsR⟩
      have hRC : RC (mk (un X oo) w6) (.slice ro R.length cr) R := ⟨ro, cr, rfl, hcr, hsR⟩
      obtain ⟨k, hk⟩ : ∃ k, R.length = k := ⟨_, rfl⟩
      rw [hk] at hRC ⊢
      have hO6 := hO.ext0 RC.elem hE6
      have hb6 := hE6.size
      clear k00
      go_wp2_with (at_builtin; refine st_append1n (l := M.take i) slRats rfl RC.elem (by omega) (hXr.ext hE6) i hln.out rfl rfl hO6 (.slice ro k cr) R rfl hRC (by omega) (by omega) ?_; intro oo2 co2 w7 hO7 hE7 hor)
      have hE8 := (hE.trans hE6).own hO6 (Nat.le_refl _) hE7
      rw [htk.out] at hO7
      go_roundw
      case rel => exact ⟨i + 1, oo2, co2, by go_num, by go_num, by omega, hO7, hE8⟩
      case measure => simp [intOf]; omega
    · have hil : i = n := by omega
      subst hil
      rw [List.take_of_length_le (by omega)] at hO
      have hc := hO.lenCap
      have hs := hO.sl RC.elem
      go_wp2_with fail
      go_ret
      exact ⟨hE, _, rfl, oo, co, by rw [hMl.out]; rfl, hc, hs⟩
end Go.Proofs.YtjbhcniiioepgaaGreat

