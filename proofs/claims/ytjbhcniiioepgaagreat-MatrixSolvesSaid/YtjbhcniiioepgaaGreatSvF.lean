/- Sums, row operations, and the reduced form of a matrix, which is unique. Conditions: none. Row echelon forms and reduced forms, column by column. Conditions: none. Elimination over lists of rows: what the two programs compute is the reduced form. Conditions: none. How large the numbers of an elimination grow. Conditions: none. Determinants of at most four rows: row operations, products, the transposed matrix, triangles. Conditions: none. Ranks, null vectors and solutions, read off the reduced form. Conditions: none. matrix: formed, columns. Conditions: lengths far below any machine's. Matrices that a call has made itself, row by row, and writes into: what they are, and what each step leaves of them. Conditions: none. Stores into rows and matrices that a call has made itself, as the walk writes them; readings beside them. Conditions: none. matrix: zero. Conditions: few rows and columns. matrix: copied. Conditions: few rows and columns. Elements of rows that a call has made itself: loads. Conditions: none. Matrices whose elimination stays small: those of small numbers, and those that are reduced. Conditions: none. Products of rows and matrices, the transposed matrix, over lists. Conditions: none. matrix: Transpose. Conditions: few rows and columns, numbers of at most 2^36 digits. matrix: eliminate. Conditions: numbers of at most 2^36 digits. matrix: echelon's closure, slices.IndexFunc over it. Conditions: numbers of at most 2^36 digits. -/
import Derived.Test.YtjbhcniiioepgaaGreatSvE
import Derived.BigRegion
namespace Go.Lin
/-- A sum of n numbers. -/
def sm : Nat → (Nat → Rat) → Rat
  | 0, _ => 0
  | n + 1, f => sm n f + f n
theorem sm_congr {n : Nat} {f g : Nat → Rat} (h : ∀ i, i < n → f i = g i) : sm n f = sm n g := by
  induction n with
  | zero => rfl
  | succ n ih => unfold sm; rw [ih fun i hi => h i (by omega), h n (by omega)]
theorem sm_zero {n : Nat} {f : Nat → Rat} (h : ∀ i, i < n → f i = 0) : sm n f = 0 := by
  induction n with
  | zero => rfl
  | succ n ih => unfold sm; rw [ih fun i hi => h i (by omega), h n (by omega)]; grind
theorem sm_add (n : Nat) (f g : Nat → Rat) : sm n (fun i => f i + g i) = sm n f + sm n g := by
  induction n with
  | zero => unfold sm; grind
  | succ n ih => unfold sm; rw [ih]; grind
theorem sm_mul (n : Nat) (a : Rat) (f : Nat → Rat) : sm n (fun i => a * f i) = a * sm n f := by
  induction n with
  | zero => unfold sm; grind
  | succ n ih => unfold sm; rw [ih]; grind
/-- All but one or two numbers are 0. -/
theorem sm_one {n : Nat} {f : Nat → Rat} (k : Nat) (hk : k < n) (h : ∀ i, i < n → i ≠ k → f i = 0) : sm n f = f k := by
  induction n with
  | zero => omega
  | succ n ih =>
    unfold sm
    by_cases e : k = n
    · subst e; rw [sm_zero fun i hi => h i (by omega) (by omega)]; grind
    · rw [ih (by omega) fun i hi hik => h i (by omega) hik, h n (by omega) (by omega)]; grind
abbrev F2 := Nat → Nat → Rat
/-- Rows and columns that count agree. -/
def Eqm (n c : Nat) (f g : F2) : Prop := ∀ i, i < n → ∀ j, j < c → f i j = g i j

/-- x is sent to 0. -/
def Nul (n c : Nat) (f : F2) (x : Nat → Rat) : Prop := ∀ i, i < n → sm c (fun j => f i j * x j) = 0

/-- Row operations that lead from f to g; the determinant is multiplied by d. -/
inductive RE (n c : Nat) : F2 → F2 → Rat → Prop
  | same {f g : F2} (h : Eqm n c f g) : RE n c f g 1
  | swap {f g : F2} (i k : Nat) (hi : i < n) (hk : k < n) (hik : i ≠ k) (h1 : ∀ j, j < c → g i j = f k j) (h2 : ∀ j, j < c → g k j = f i j) (h3 : ∀ r, r < n → r ≠ i → r ≠ k → ∀ j, j < c → g r j = f r j) : RE n c f g (-1)
  | scale {f g : F2} (i : Nat) (a : Rat) (hi : i < n) (ha : a ≠ 0) (h1 : ∀ j, j < c → g i j = a * f i j) (h3 : ∀ r, r < n → r ≠ i → ∀ j, j < c → g r j = f r j) : RE n c f g a
  | add {f g : F2} (i k : Nat) (a : Rat) (hi : i < n) (hk : k < n) (hik : i ≠ k) (h1 : ∀ j, j < c → g i j = f i j + a * f k j) (h3 : ∀ r, r < n → r ≠ i → ∀ j, j < c → g r j = f r j) : RE n c f g 1
  | trans {f g h : F2} {a b : Rat} (h1 : RE n c f g a) (h2 : RE n c g h b) : RE n c f h (a * b)

theorem RE.nul {n c : Nat} {f g : F2} {d : Rat} (h : RE n c f g d) (x : Nat → Rat) : Nul n c f x ↔ Nul n c g x := by
  induction h with
  | same h => 
    constructor
    · intro hn i hi; rw [← hn i hi]; exact sm_congr fun j hj => by rw [h i hi j hj]
    · intro hn i hi; rw [← hn i hi]; exact sm_congr fun j hj => by rw [h i hi j hj]
  | swap i k hi hk hik h1 h2 h3 =>
    constructor
    · intro hn r hr
      by_cases a : r = i
      · subst a; rw [← hn k hk]; exact sm_congr fun j hj => by rw [h1 j hj]
      · by_cases b : r = k
        · subst b; rw [← hn i hi]; exact sm_congr fun j hj => by rw [h2 j hj]
        · rw [← hn r hr]; exact sm_congr fun j hj => by rw [h3 r hr a b j hj]
    · intro hn r hr
      by_cases a : r = i
      · subst a; rw [← hn k hk]; exact sm_congr fun j hj => by rw [h2 j hj]
      · by_cases b : r = k
        · subst b; rw [← hn i hi]; exact sm_congr fun j hj => by rw [h1 j hj]
        · rw [← hn r hr]; exact sm_congr fun j hj => by rw [h3 r hr a b j hj]
  | @scale f g i a hi ha h1 h3 =>
    have key : sm c (fun j => g i j * x j) = a * sm c (fun j => f i j * x j) := by
      rw [← sm_mul]; exact sm_congr fun j hj => by rw [h1 j hj]; grind
    constructor
    · intro hn r hr
      by_cases e : r = i
      · subst e; rw [key, hn r hr]; grind
      · rw [← hn r hr]; exact sm_congr fun j hj => by rw [h3 r hr e j hj]
    · intro hn r hr
      by_cases e : r = i
      · subst e; have := hn r hr; rw [key] at this; rcases Rat.mul_eq_zero.1 this with h | h
        · contradiction
        · exact h
      · rw [← hn r hr]; exact sm_congr fun j hj => by rw [h3 r hr e j hj]
  | @add f g i k a hi hk hik h1 h3 =>
    have key : sm c (fun j => g i j * x j) = sm c (fun j => f i j * x j) + a * sm c (fun j => f k j * x j) := by
      rw [← sm_mul, ← sm_add]; exact sm_congr fun j hj => by rw [h1 j hj]; grind
    constructor
    · intro hn r hr
      by_cases e : r = i
      · subst e; rw [key, hn r hr, hn k hk]; grind
      · rw [← hn r hr]; exact sm_congr fun j hj => by rw [h3 r hr e j hj]
    · intro hn r hr
      by_cases e : r = i
      · subst e
        have h4 := hn r hr; rw [key] at h4
        have h5 := hn k hk
        rw [show sm c (fun j => g k j * x j) = sm c (fun j => f k j * x j) from sm_congr fun j hj => by rw [h3 k hk (by omega) j hj]] at h5
        rw [h5] at h4; grind
      · rw [← hn r hr]; exact sm_congr fun j hj => by rw [h3 r hr e j hj]
  | trans _ _ ih1 ih2 => exact ih1.trans ih2

/-- The reduced form, with its pivots. -/
structure Rref (n c : Nat) (f : F2) (p : List Nat) : Prop where
  le : p.length ≤ n
  lt : ∀ i (hi : i < p.length), p[i] < c
  inc : ∀ i k (hik : i < k) (hk : k < p.length), p[i] < p[k]
  left : ∀ i (hi : i < p.length), ∀ j, j < p[i] → f i j = 0
  one : ∀ i (hi : i < p.length), f i p[i] = 1
  zero : ∀ k (hk : k < p.length), ∀ i, i < n → i ≠ k → f i p[k] = 0
  below : ∀ i, p.length ≤ i → i < n → ∀ j, j < c → f i j = 0

/-- The null vector of a column that is no pivot. -/
def nv (f : F2) (p : List Nat) (j : Nat) : Nat → Rat := fun x => if x = j then 1 else match p.findIdx? (· == x) with | some i => - f i j | none => 0

theorem Rref.idx {n c : Nat} {f : F2} {p : List Nat} (h : Rref n c f p) (i : Nat) (hi : i < p.length) : p.findIdx? (· == p[i]) = some i := by
  rw [List.findIdx?_eq_some_iff_getElem]
  refine ⟨hi, by simp, fun j hj => ?_⟩
  have := h.inc j i hj hi
  simp; omega
theorem idx_none {p : List Nat} {x : Nat} (h : x ∉ p) : p.findIdx? (· == x) = none := by
  rw [List.findIdx?_eq_none_iff]; intro y hy; simp; rintro rfl; exact h hy
theorem Rref.nv_piv {n c : Nat} {f : F2} {p : List Nat} (h : Rref n c f p) {j : Nat} (hj : j ∉ p) (i : Nat) (hi : i < p.length) : nv f p j p[i] = - f i j := by
  unfold nv
  rw [if_neg (by rintro e; exact hj (e ▸ List.getElem_mem _)), h.idx i hi]
theorem nv_self {f : F2} {p : List Nat} (j : Nat) : nv f p j j = 1 := by simp [nv]
theorem nv_free {f : F2} {p : List Nat} {j x : Nat} (hx : x ∉ p) (hj : x ≠ j) : nv f p j x = 0 := by
  unfold nv; rw [if_neg hj, idx_none hx]

/-- A reduced form's row times any x. -/
theorem Rref.row {n c : Nat} {f : F2} {p : List Nat} (h : Rref n c f p) (i : Nat) (hi : i < p.length) (x : Nat → Rat) : sm c (fun j => f i j * x j) = x p[i] + sm c (fun j => if j ∈ p then 0 else f i j * x j) := by
  have e : sm c (fun j => f i j * x j) = sm c (fun j => (if j = p[i] then x p[i] else 0) + (if j ∈ p then 0 else f i j * x j)) := by
    refine sm_congr fun j hj => ?_
    by_cases hp : j ∈ p
    · obtain ⟨k, hk, rfl⟩ := List.getElem_of_mem hp
      by_cases hki : i = k
      · subst hki; simp [h.one i hi]; grind
      · have hne : p[k] ≠ p[i] := by
          rcases Nat.lt_or_gt_of_ne hki with a | a
          · have := h.inc i k a hk; omega
          · have := h.inc k i a hi; omega
        simp [hne, h.zero k hk i (Nat.lt_of_lt_of_le hi h.le) hki]; grind
    · have hne : j ≠ p[i] := by rintro rfl; exact hp (List.getElem_mem _)
      simp [hp, hne]; grind
  rw [e, sm_add, sm_one p[i] (h.lt i hi) (fun j _ hj => by simp [hj])]
  simp

theorem Rref.nv_nul {n c : Nat} {f : F2} {p : List Nat} (h : Rref n c f p) {j : Nat} (hj : j ∉ p) (hjc : j < c) : Nul n c f (nv f p j) := by
  intro i hi
  by_cases hip : i < p.length
  · rw [h.row i hip, h.nv_piv hj i hip, sm_one j hjc]
    · simp [hj, nv_self]; grind
    · intro k _ hkj
      by_cases hp : k ∈ p
      · simp [hp]
      · simp [hp, nv_free hp hkj]
  · exact sm_zero fun k hk => by rw [h.below i (by omega) hi k hk]; grind

/-- The null vector of a column vanishes behind that column. -/
theorem Rref.nv_supp {n c : Nat} {f : F2} {p : List Nat} (h : Rref n c f p) {j : Nat} (hj : j ∉ p) {x : Nat} (hx : j < x) : nv f p j x = 0 := by
  by_cases hp : x ∈ p
  · obtain ⟨k, hk, rfl⟩ := List.getElem_of_mem hp
    rw [h.nv_piv hj k hk, h.left k hk j hx]; grind
  · exact nv_free hp (by omega)

theorem Rref.sub {n c : Nat} {f g : F2} {p q : List Nat} (hf : Rref n c f p) (hg : Rref n c g q) (hn : ∀ x, Nul n c f x → Nul n c g x) (j : Nat) (hj : j ∈ q) : j ∈ p := by
  refine Classical.byContradiction fun hjp => ?_
  obtain ⟨k, hk, rfl⟩ := List.getElem_of_mem hj
  have h1 := hn _ (hf.nv_nul hjp (hg.lt k hk)) k (Nat.lt_of_lt_of_le hk hg.le)
  rw [sm_one q[k] (hg.lt k hk)] at h1
  · rw [hg.one k hk, nv_self] at h1; grind
  · intro x _ hx
    rcases Nat.lt_or_gt_of_ne hx with a | a
    · rw [hg.left k hk x a]; grind
    · rw [hf.nv_supp hjp a]; grind

theorem inc_eq : ∀ (p q : List Nat), p.Pairwise (· < ·) → q.Pairwise (· < ·) → (∀ x, x ∈ p ↔ x ∈ q) → p = q
  | [], [], _, _, _ => rfl
  | [], b :: q, _, _, h => by have := (h b).2 (by simp); simp at this
  | a :: p, [], _, _, h => by have := (h a).1 (by simp); simp at this
  | a :: p, b :: q, hp, hq, h => by
    rw [List.pairwise_cons] at hp hq
    have hab : a = b := by
      have h1 := (h a).1 (by simp)
      have h2 := (h b).2 (by simp)
      simp at h1 h2
      rcases h1 with h1 | h1
      · exact h1
      · rcases h2 with h2 | h2
        · exact h2.symm
        · have := hq.1 a h1; have := hp.1 b h2; omega
    subst hab
    rw [inc_eq p q hp.2 hq.2]
    intro x
    have h3 := h x
    simp at h3
    constructor
    · intro hx
      have := hp.1 x hx
      rcases h3.1 (.inr hx) with e | e
      · omega
      · exact e
    · intro hx
      have := hq.1 x hx
      rcases h3.2 (.inr hx) with e | e
      · omega
      · exact e
theorem Rref.pw {n c : Nat} {f : F2} {p : List Nat} (h : Rref n c f p) : p.Pairwise (· < ·) := by
  rw [List.pairwise_iff_getElem]; intro i j hi hj hij; exact h.inc i j hij hj

/-- The reduced form is determined by what it sends to 0. -/
theorem Rref.unique {n c : Nat} {f g : F2} {p q : List Nat} (hf : Rref n c f p) (hg : Rref n c g q) (hn : ∀ x, Nul n c f x ↔ Nul n c g x) : p = q ∧ Eqm n c f g := by
  have hpq : p = q := inc_eq p q hf.pw hg.pw fun x => ⟨hg.sub hf (fun x h => (hn x).2 h) x, hf.sub hg (fun x h => (hn x).1 h) x⟩
  subst hpq
  refine ⟨rfl, fun i hi j hj => ?_⟩
  by_cases hip : i < p.length
  · by_cases hjp : j ∈ p
    · obtain ⟨k, hk, rfl⟩ := List.getElem_of_mem hjp
      by_cases e : i = k
      · subst e; rw [hf.one i hip, hg.one i hip]
      · rw [hf.zero k hk i hi e, hg.zero k hk i hi e]
    · have h1 := (hn _).1 (hf.nv_nul hjp hj) i hi
      rw [hg.row i hip, hf.nv_piv hjp i hip, sm_one j hj] at h1
      · simp [hjp, nv_self] at h1; grind
      · intro k _ hkj
        by_cases hp : k ∈ p
        · simp [hp]
        · simp [hp, nv_free hp hkj]
  · rw [hf.below i (by omega) hi j hj, hg.below i (by omega) hi j hj]
end Go.Lin


namespace Go.Lin
theorem RE.cast {n c : Nat} {f g : F2} {a b : Rat} (h : RE n c f g a) (e : a = b) : RE n c f g b := e ▸ h
theorem RE.then_ {n c : Nat} {f g h : F2} {a b d : Rat} (h1 : RE n c f g a) (h2 : RE n c g h b) (e : a * b = d) : RE n c f h d := e ▸ h1.trans h2
/-- Multiples of one row are added to all others. -/
theorem RE.addmany {n c : Nat} {f g : F2} (k : Nat) (hk : k < n) (a : Nat → Rat) (h1 : ∀ i, i < n → i ≠ k → ∀ j, j < c → g i j = f i j + a i * f k j) (h2 : ∀ j, j < c → g k j = f k j) : RE n c f g 1 := by
  have key : ∀ t, t ≤ n → RE n c f (fun i j => if i < t then g i j else f i j) 1 := by
    intro t
    induction t with
    | zero => intro _; exact .same fun i _ j _ => by simp
    | succ t ih =>
      intro ht
      refine (ih (by omega)).then_ (b := 1) ?_ (by grind)
      by_cases e : t = k
      · subst e
        refine .same fun i hi j hj => ?_
        by_cases a : i < t
        · simp [a, show i < t + 1 by omega]
        · by_cases b : i = t
          · subst b; simp [h2 j hj]
          · simp [a, show ¬ i < t + 1 by omega]
      · refine .add t k (a t) (by omega) hk e (fun j hj => ?_) (fun r hr hrt j hj => ?_)
        · have h3 := h1 t (by omega) e j hj
          by_cases b : k < t
          · simp [b, h3, h2 j hj]
          · simp [b, h3]
        · by_cases a : r < t
          · simp [a, show r < t + 1 by omega]
          · simp [a, show ¬ r < t + 1 by omega]
  refine (key n (Nat.le_refl _)).then_ (.same fun i hi j hj => ?_) (by grind)
  simp [hi]

/-- A row echelon form of the first k columns. -/
structure Ech (n k : Nat) (f : F2) (p : List Nat) : Prop where
  le : p.length ≤ n
  lt : ∀ i (hi : i < p.length), p[i] < k
  inc : ∀ i k (hik : i < k) (hk : k < p.length), p[i] < p[k]
  left : ∀ i (hi : i < p.length), ∀ j, j < p[i] → f i j = 0
  piv : ∀ i (hi : i < p.length), f i p[i] ≠ 0
  below : ∀ i, p.length ≤ i → i < n → ∀ j, j < k → f i j = 0

theorem Ech.nil (n : Nat) (f : F2) : Ech n 0 f [] := ⟨by simp, by simp, by simp, by simp, by simp, by intros; omega⟩
theorem Ech.skip {n k : Nat} {f : F2} {p : List Nat} (h : Ech n k f p) (hz : ∀ i, p.length ≤ i → i < n → f i k = 0) : Ech n (k + 1) f p :=
  ⟨h.le, fun i hi => Nat.lt_succ_of_lt (h.lt i hi), h.inc, h.left, h.piv, fun i hi hn j hj => by
    by_cases e : j = k
    · subst e; exact hz i hi hn
    · exact h.below i hi hn j (by omega)⟩
theorem push_lt {p : List Nat} {k : Nat} (h : ∀ i (hi : i < p.length), p[i] < k) (i : Nat) (hi : i < (p ++ [k]).length) : (p ++ [k])[i] < k + 1 := by
  rw [List.getElem_append]; split
  · have := h i (by assumption); omega
  · simp
theorem push_inc {p : List Nat} {c : Nat} (h : ∀ i (hi : i < p.length), p[i] < c) (h2 : ∀ i k (hik : i < k) (hk : k < p.length), p[i] < p[k]) (i k : Nat) (hik : i < k) (hk : k < (p ++ [c]).length) : (p ++ [c])[i] < (p ++ [c])[k] := by
  simp at hk
  rw [List.getElem_append, List.getElem_append]
  by_cases a : k < p.length
  · simp [a, show i < p.length by omega]; exact h2 i k hik a
  · simp [a, show i < p.length by omega]; exact h i (by omega)
theorem Ech.push {n k : Nat} {f g : F2} {p : List Nat} (h : Ech n k f p) (hp : p.length < n) (h0 : ∀ i, i < p.length → ∀ j, g i j = f i j)
    (hz : ∀ i, p.length ≤ i → i < n → ∀ j, j < k → g i j = 0) (hne : g p.length k ≠ 0) (hb : ∀ i, p.length < i → i < n → g i k = 0) : Ech n (k + 1) g (p ++ [k]) := by
  refine ⟨by simp; omega, push_lt h.lt, push_inc h.lt h.inc, fun i hi j hj => ?_, fun i hi => ?_, fun i hi hn j hj => ?_⟩
  · simp at hi
    rw [List.getElem_append] at hj
    by_cases a : i < p.length
    · simp [a] at hj; rw [h0 i a]; exact h.left i a j hj
    · simp [a] at hj; exact hz i (by omega) (by omega) j hj
  · simp at hi
    rw [List.getElem_append]
    by_cases a : i < p.length
    · simp only [a, dite_true]; rw [h0 i a]; exact h.piv i a
    · obtain rfl : i = p.length := by omega
      simpa using hne
  · simp at hi
    by_cases e : j = k
    · subst e; exact hb i (by omega) hn
    · exact hz i (by omega) hn j (by omega)

/-- The first t pivots are 1, and alone in their columns. -/
structure Red (n t : Nat) (f : F2) (p : List Nat) : Prop where
  one : ∀ i (hi : i < p.length), i < t → f i p[i] = 1
  zero : ∀ k (hk : k < p.length), k < t → ∀ i, i < n → i ≠ k → f i p[k] = 0
theorem Ech.rref {n c : Nat} {f : F2} {p : List Nat} (h : Ech n c f p) (hr : Red n p.length f p) : Rref n c f p :=
  ⟨h.le, h.lt, h.inc, h.left, fun i hi => hr.one i hi hi, fun k hk => hr.zero k hk hk, h.below⟩
/-- Entries below a pivot are 0. -/
theorem Ech.under {n c : Nat} {f : F2} {p : List Nat} (h : Ech n c f p) (k : Nat) (hk : k < p.length) (i : Nat) (hi : i < n) (hki : k < i) : f i p[k] = 0 := by
  by_cases a : i < p.length
  · exact h.left i a _ (h.inc k i hki a)
  · exact h.below i (by omega) hi _ (h.lt k hk)
/-- One pivot more: its row is divided, and taken from those above. -/
theorem Red.step {n c t : Nat} {f g : F2} {p : List Nat} (h : Ech n c f p) (hr : Red n t f p) (ht : t < p.length) 
    (h1 : ∀ j, g t j = f t j / f t p[t]) (h2 : ∀ i, i < t → ∀ j, g i j = f i j - f i p[t] * g t j) (h3 : ∀ i, t < i → ∀ j, g i j = f i j) : Ech n c g p ∧ Red n (t + 1) g p := by
  have hpv := h.piv t ht
  have hz : ∀ j, j < p[t] → g t j = 0 := fun j hj => by rw [h1, h.left t ht j hj]; grind
  have hone : g t p[t] = 1 := by rw [h1]; grind
  refine ⟨⟨h.le, h.lt, h.inc, fun i hi j hj => ?_, fun i hi => ?_, fun i hi hn j hj => ?_⟩, ⟨fun i hi hit => ?_, fun k hk hkt i hi hik => ?_⟩⟩
  · rcases Nat.lt_trichotomy i t with a | a | a
    · rw [h2 i a, h.left i hi j hj, hz j (by have := h.inc i t a ht; omega)]; grind
    · subst a; exact hz j hj
    · rw [h3 i a]; exact h.left i hi j hj
  · rcases Nat.lt_trichotomy i t with a | a | a
    · rw [h2 i a, hz _ (h.inc i t a ht)]; have := h.piv i hi; grind
    · subst a; rw [hone]; grind
    · rw [h3 i a]; exact h.piv i hi
  · rw [h3 i (by omega)]; exact h.below i hi hn j hj
  · rcases Nat.lt_trichotomy i t with a | a | a
    · rw [h2 i a, hz _ (h.inc i t a ht), hr.one i hi a]; grind
    · subst a; exact hone
    · omega
  · rcases Nat.lt_trichotomy k t with b | b | b
    · have hzk : g t p[k] = 0 := hz _ (h.inc k t b ht)
      rcases Nat.lt_trichotomy i t with a | a | a
      · rw [h2 i a, hzk, hr.zero k hk b i hi hik]; grind
      · subst a; exact hzk
      · rw [h3 i a]; exact hr.zero k hk b i hi hik
    · subst b
      rcases Nat.lt_trichotomy i k with a | a | a
      · rw [h2 i a, hone]; grind
      · omega
      · rw [h3 i a]; exact h.under k hk i hi a
    · omega

/-- The reference's reduced form grows by a column without a pivot. -/
theorem Rref.skip {n k : Nat} {f : F2} {p : List Nat} (h : Rref n k f p) (hz : ∀ i, p.length ≤ i → i < n → f i k = 0) : Rref n (k + 1) f p :=
  ⟨h.le, fun i hi => Nat.lt_succ_of_lt (h.lt i hi), h.inc, h.left, h.one, h.zero, fun i hi hn j hj => by
    by_cases e : j = k
    · subst e; exact hz i hi hn
    · exact h.below i hi hn j (by omega)⟩
theorem Rref.nil (n : Nat) (f : F2) : Rref n 0 f [] := ⟨by simp, by simp, by simp, by simp, by simp, by simp, by intros; omega⟩
/-- .. and by one with a pivot: f has the pivot's row at its place. -/
theorem Rref.push {n k : Nat} {f g : F2} {p : List Nat} (h : Rref n k f p) (hp : p.length < n) (hne : f p.length k ≠ 0)
    (h1 : ∀ j, g p.length j = f p.length j * (1 / f p.length k)) (h2 : ∀ i, i < n → i ≠ p.length → ∀ j, g i j = f i j + g p.length j * - f i k) : Rref n (k + 1) g (p ++ [k]) := by
  have hz : ∀ j, j < k → g p.length j = 0 := fun j hj => by rw [h1, h.below _ (Nat.le_refl _) hp j hj]; grind
  have hone : g p.length k = 1 := by rw [h1]; grind
  have hk0 : ∀ i, i < n → i ≠ p.length → g i k = 0 := fun i hi e => by rw [h2 i hi e, hone]; grind
  have hs : ∀ i, i < n → ∀ j, j < k → g i j = f i j := fun i hi j hj => by
    by_cases e : i = p.length
    · subst e; rw [hz j hj, h.below _ (Nat.le_refl _) hp j hj]
    · rw [h2 i hi e, hz j hj]; grind
  refine ⟨by simp; omega, push_lt h.lt, push_inc h.lt h.inc, fun i hi j hj => ?_, fun i hi => ?_, fun q hq i hi hiq => ?_, fun i hi hn j hj => ?_⟩
  · simp at hi
    rw [List.getElem_append] at hj
    by_cases a : i < p.length
    · simp [a] at hj; rw [hs i (by omega) j (by have := h.lt i a; omega)]; exact h.left i a j hj
    · simp [a] at hj; obtain rfl : i = p.length := by omega
      exact hz j hj
  · simp at hi
    rw [List.getElem_append]
    by_cases a : i < p.length
    · simp only [a, dite_true]; rw [hs i (by omega) _ (h.lt i a)]; exact h.one i a
    · obtain rfl : i = p.length := by omega
      simpa using hone
  · simp at hq
    rw [List.getElem_append]
    by_cases a : q < p.length
    · simp only [a, dite_true]; rw [hs i hi _ (h.lt q a)]; exact h.zero q a i hi hiq
    · obtain rfl : q = p.length := by omega
      simpa using hk0 i hi hiq
  · simp at hi
    by_cases e : j = k
    · subst e; exact hk0 i hn (by omega)
    · rw [hs i hn j (by omega)]; exact h.below i (by omega) hn j (by omega)
end Go.Lin


namespace Go.Lin
abbrev Mat := List (List Rat)
def ent (m : Mat) : F2 := fun i j => (m.getD i []).getD j 0
def Shp (n c : Nat) (m : Mat) : Prop := m.length = n ∧ ∀ r ∈ m, r.length = c
theorem Shp.row {n c : Nat} {m : Mat} (h : Shp n c m) {i : Nat} (hi : i < n) : (m.getD i []).length = c := by
  have : i < m.length := by rw [h.1]; exact hi
  simp [List.getD_eq_getElem?_getD, this, h.2]
theorem ent_out {n c : Nat} {m : Mat} (h : Shp n c m) {i j : Nat} (hij : n ≤ i ∨ c ≤ j) : ent m i j = 0 := by
  unfold ent
  by_cases hi : i < n
  · have := h.row hi
    rw [List.getD_eq_getElem?_getD, List.getElem?_eq_none (by omega)]; rfl
  · have := h.1
    rw [List.getD_eq_getElem?_getD (l := m), List.getElem?_eq_none (by omega)]; simp
theorem Shp.ext {n c : Nat} {m m' : Mat} (h : Shp n c m) (h' : Shp n c m') (he : Eqm n c (ent m) (ent m')) : m = m' := by
  refine List.ext_getElem (h.1.trans h'.1.symm) fun i h1 h2 => ?_
  have hl1 := h.2 _ (List.getElem_mem h1)
  have hl2 := h'.2 _ (List.getElem_mem h2)
  refine List.ext_getElem (hl1.trans hl2.symm) fun j h3 h4 => ?_
  have := he i (by rw [← h.1]; exact h1) j (by omega)
  simpa [ent, List.getD_eq_getElem?_getD, h1, h2, h3, h4] using this
theorem Shp.set {n c : Nat} {m : Mat} (h : Shp n c m) (i : Nat) {r : List Rat} (hr : r.length = c) : Shp n c (m.set i r) := by
  refine ⟨by simp [h.1], fun x hx => ?_⟩
  rcases List.mem_or_eq_of_mem_set hx with a | a
  · exact h.2 _ a
  · rw [a]; exact hr
theorem ent_set {m : Mat} {i : Nat} {r : List Rat} (hi : i < m.length) (k j : Nat) : ent (m.set i r) k j = if k = i then r.getD j 0 else ent m k j := by
  unfold ent
  simp only [List.getD_eq_getElem?_getD, List.getElem?_set]
  by_cases e : k = i
  · subst e; simp [hi]
  · simp [e, Ne.symm e]
/-- Each row by its number. -/
def rows (m : Mat) (f : Nat → List Rat → List Rat) : Mat := m.mapIdx f
theorem Shp.rows {n c : Nat} {m : Mat} (h : Shp n c m) {f : Nat → List Rat → List Rat} (hf : ∀ i, i < n → ∀ r : List Rat, r.length = c → (f i r).length = c) : Shp n c (rows m f) := by
  refine ⟨by simp [Lin.rows, h.1], fun x hx => ?_⟩
  obtain ⟨i, hi, rfl⟩ := List.getElem_of_mem hx
  simp only [Lin.rows, List.length_mapIdx, List.getElem_mapIdx] at hi ⊢
  exact hf i (by rw [← h.1]; exact hi) _ (h.2 _ (List.getElem_mem _))
theorem ent_rows {m : Mat} {f : Nat → List Rat → List Rat} {i : Nat} (hi : i < m.length) (j : Nat) : ent (rows m f) i j = (f i (m.getD i [])).getD j 0 := by
  simp [ent, rows, List.getD_eq_getElem?_getD, hi]

def swapL (m : Mat) (i k : Nat) : Mat := (m.set i (m.getD k [])).set k (m.getD i [])
theorem Shp.swap {n c : Nat} {m : Mat} (h : Shp n c m) {i k : Nat} (hi : i < n) (hk : k < n) : Shp n c (swapL m i k) := (h.set i (h.row hk)).set k (h.row hi)
theorem ent_swap {n c : Nat} {m : Mat} (h : Shp n c m) {i k : Nat} (hi : i < n) (hk : k < n) (r j : Nat) : ent (swapL m i k) r j = if r = k then ent m i j else if r = i then ent m k j else ent m r j := by
  unfold swapL
  rw [ent_set (by simp [h.1, hk]), ent_set (by simp [h.1, hi])]; rfl
theorem swapL_self (m : Mat) (i : Nat) (hi : i < m.length) : swapL m i i = m := by
  unfold swapL
  simp [List.getD_eq_getElem?_getD, hi]
theorem re_swap {n c : Nat} {m : Mat} (h : Shp n c m) {i k : Nat} (hi : i < n) (hk : k < n) (hik : i ≠ k) : RE n c (ent m) (ent (swapL m i k)) (-1) :=
  .swap i k hi hk hik (fun j _ => by rw [ent_swap h hi hk]; simp [hik]) (fun j _ => by rw [ent_swap h hi hk]; simp) (fun r _ a b j _ => by rw [ent_swap h hi hk]; simp [a, b])

/-- A multiple of a row taken from another one so that a column becomes 0. -/
def elimL (row piv : List Rat) (col : Nat) : List Rat := List.zipWith (fun a x => a - (row.getD col 0 / piv.getD col 0) * x) row piv
theorem elimL_len (row piv : List Rat) (col : Nat) (h : row.length = piv.length) : (elimL row piv col).length = piv.length := by simp [elimL, h]
theorem elimL_get (row piv : List Rat) (col j : Nat) (h : row.length = piv.length) : (elimL row piv col).getD j 0 = row.getD j 0 - (row.getD col 0 / piv.getD col 0) * piv.getD j 0 := by
  unfold elimL
  simp only [List.getD_eq_getElem?_getD, List.getElem?_zipWith]
  by_cases hj : j < row.length
  · simp [hj, show j < piv.length by omega]
  · simp [show ¬ j < row.length by omega, show ¬ j < piv.length by omega]; grind
theorem elimL_zero (row piv : List Rat) (col : Nat) (h : row.length = piv.length) (h0 : row.getD col 0 / piv.getD col 0 = 0) : elimL row piv col = row := by
  refine List.ext_getElem (by simp [elimL, h]) fun i h1 h2 => ?_
  simp only [elimL, List.getElem_zipWith, h0]; grind

/-- The state of the program's elimination: rows, pivots, were rows exchanged an odd number of times. -/
abbrev St := Mat × List Nat × Bool
def clear (m : Mat) (t col : Nat) (s : Nat) : Mat := rows m fun i r => if t < i ∧ i < t + 1 + s then elimL r (m.getD t []) col else r
noncomputable def nzAt (m : Mat) (t col : Nat) : Option Nat := (m.drop t).findIdx? fun r => decide (r.getD col 0 ≠ 0)
noncomputable def eStep (s : St) (col : Nat) : St :=
  if s.2.1.length = s.1.length then s else
  match nzAt s.1 s.2.1.length col with
  | none => s
  | some k => (clear (swapL s.1 s.2.1.length (s.2.1.length + k)) s.2.1.length col s.1.length, s.2.1 ++ [col], s.2.2 != decide (k ≠ 0))
noncomputable def eN (m : Mat) : Nat → St
  | 0 => (m, [], false)
  | k + 1 => eStep (eN m k) k

theorem Shp.clear {n c : Nat} {m : Mat} (h : Shp n c m) {t : Nat} (ht : t < n) (col s : Nat) : Shp n c (clear m t col s) :=
  h.rows fun i hi r hr => by
    split
    · rw [elimL_len _ _ _ (by rw [hr, h.row ht]), h.row ht]
    · exact hr
theorem ent_clear {n c : Nat} {m : Mat} (h : Shp n c m) {t : Nat} (ht : t < n) (col s i j : Nat) : ent (clear m t col s) i j = if t < i ∧ i < t + 1 + s ∧ i < n then ent m i j - (ent m i col / ent m t col) * ent m t j else ent m i j := by
  by_cases hi : i < n
  · unfold Lin.clear
    rw [ent_rows (by rw [h.1]; exact hi)]
    by_cases a : t < i ∧ i < t + 1 + s
    · simp only [a, and_self, if_true, hi]
      rw [elimL_get _ _ _ _ (by rw [h.row hi, h.row ht])]; rfl
    · rw [if_neg a, if_neg (fun b => a ⟨b.1, b.2.1⟩)]; rfl
  · rw [ent_out (h.clear ht col s) (.inl (by omega)), if_neg (by omega), ent_out h (.inl (by omega))]
theorem re_clear {n c : Nat} {m : Mat} (h : Shp n c m) {t : Nat} (ht : t < n) (col s : Nat) : RE n c (ent m) (ent (clear m t col s)) 1 :=
  .addmany t ht (fun i => if t < i ∧ i < t + 1 + s ∧ i < n then - (ent m i col / ent m t col) else 0)
    (fun i hi e j hj => by rw [ent_clear h ht]; split <;> grind) (fun j hj => by rw [ent_clear h ht]; simp)

theorem nzAt_none {m : Mat} {t col : Nat} (h : nzAt m t col = none) (i : Nat) (hi : t ≤ i) : ent m i col = 0 := by
  unfold nzAt at h
  rw [List.findIdx?_eq_none_iff] at h
  by_cases a : i < m.length
  · have := h (m[i]) (by rw [List.mem_drop_iff_getElem]; exact ⟨i - t, by omega, by congr 1; omega⟩)
    unfold ent; simp only [List.getD_eq_getElem?_getD, a, getElem?_pos, Option.getD_some] at this ⊢
    simpa using this
  · unfold ent; rw [List.getD_eq_getElem?_getD (l := m), List.getElem?_eq_none (by omega)]; simp
theorem nzAt_some {m : Mat} {t col k : Nat} (h : nzAt m t col = some k) : t + k < m.length ∧ ent m (t + k) col ≠ 0 := by
  unfold nzAt at h
  rw [List.findIdx?_eq_some_iff_getElem] at h
  obtain ⟨h1, h2, _⟩ := h
  simp at h1
  refine ⟨by omega, ?_⟩
  unfold ent
  simp only [List.getElem_drop] at h2
  have a : t + k < m.length := by omega
  simp only [List.getD_eq_getElem?_getD, a, getElem?_pos, Option.getD_some] at h2 ⊢
  simpa using h2

/-- What the program's elimination keeps. -/
structure EOk (n c k : Nat) (m : Mat) (s : St) : Prop where
  shp : Shp n c s.1
  ech : Ech n k (ent s.1) s.2.1
  re : RE n c (ent m) (ent s.1) (if s.2.2 then -1 else 1)
theorem EOk.zero {n c : Nat} {m : Mat} (h : Shp n c m) : EOk n c 0 m (m, [], false) := ⟨h, Ech.nil _ _, .same fun _ _ _ _ => rfl⟩
theorem EOk.step {n c k : Nat} {m : Mat} {s : St} (h : EOk n c k m s) : EOk n c (k + 1) m (eStep s k) := by
  obtain ⟨M, p, odd⟩ := s
  have hs : Shp n c M := h.shp
  have he : Ech n k (ent M) p := h.ech
  have hr : RE n c (ent m) (ent M) (if odd then -1 else 1) := h.re
  have hl := hs.1
  unfold eStep
  dsimp only
  split
  · rename_i e
    exact ⟨hs, he.skip fun i hi hn => by omega, hr⟩
  · rename_i e
    split
    · rename_i hz
      exact ⟨hs, he.skip fun i hi _ => nzAt_none hz i hi, hr⟩
    · rename_i q hz
      obtain ⟨h1, h2⟩ := nzAt_some hz
      have hp : p.length < n := by have := he.le; omega
      have hpq : p.length + q < n := by omega
      have hs2 := hs.swap hp hpq
      have hes := fun i j => ent_swap hs hp hpq i j
      have hec := fun i j => ent_clear hs2 hp k M.length i j
      have hpiv : ent (swapL M p.length (p.length + q)) p.length k ≠ 0 := by
        rw [hes]; by_cases b : q = 0
        · subst b; simpa using h2
        · simp [b]; exact h2
      refine ⟨hs2.clear hp _ _, he.push hp (fun i hi j => ?_) (fun i hi hn j hj => ?_) ?_ (fun i hi hn => ?_), ?_⟩
      · rw [hec, if_neg (by omega), hes, if_neg (by omega), if_neg (by omega)]
      · have hz : ∀ i, p.length ≤ i → i < n → ent (swapL M p.length (p.length + q)) i j = 0 := fun i hi hn => by
          rw [hes]; split
          · exact he.below _ (by omega) hp j hj
          · split
            · exact he.below _ (by omega) hpq j hj
            · exact he.below _ hi hn j hj
        rw [hec]; split
        · rw [hz i hi hn, hz p.length (Nat.le_refl _) hp]; grind
        · exact hz i hi hn
      · rw [hec, if_neg (by omega)]; exact hpiv
      · rw [hec, if_pos ⟨hi, by omega, hn⟩]; grind
      · have hc := re_clear hs2 hp k M.length
        by_cases b : q = 0
        · subst b
          rw [Nat.add_zero, swapL_self M _ (by omega)] at hc ⊢
          exact hr.then_ hc (by cases odd <;> simp)
        · exact hr.then_ ((re_swap hs hp hpq (by omega)).then_ hc rfl) (by cases odd <;> simp [b]; grind)
theorem eN_ok {n c : Nat} {m : Mat} (h : Shp n c m) (k : Nat) : EOk n c k m (eN m k) := by
  induction k with
  | zero => exact EOk.zero h
  | succ k ih => exact ih.step
/-- Once there are asl many pivots asl rows, nothing turns any more. -/
theorem eN_stop (m : Mat) (k : Nat) (h : (eN m k).2.1.length = (eN m k).1.length) (k' : Nat) (hk : k ≤ k') : eN m k' = eN m k := by
  induction k' with
  | zero => have : k = 0 := by omega
            subst this; rfl
  | succ k' ih =>
    by_cases e : k = k' + 1
    · subst e; rfl
    · have := ih (by omega)
      show eStep (eN m k') k' = _
      rw [this]
      unfold eStep; rw [if_pos h]

/-- The program's second phase: the pivot's row i is divided, and taken from those above. -/
def divL (m : Mat) (i col : Nat) : Mat := m.set i ((m.getD i []).map (· / ent m i col))
def above (m : Mat) (i col s : Nat) : Mat := rows m fun k r => if k < i ∧ k < s then elimL r (m.getD i []) col else r
def dStep (m : Mat) (i col : Nat) : Mat := above (divL m i col) i col i
theorem getD_map_div (r : List Rat) (a : Rat) (j : Nat) : (r.map (· / a)).getD j 0 = r.getD j 0 / a := by
  simp only [List.getD_eq_getElem?_getD, List.getElem?_map]
  cases r[j]? with
  | none => simp; grind
  | some x => simp
theorem Shp.divL {n c : Nat} {m : Mat} (h : Shp n c m) {i : Nat} (hi : i < n) (col : Nat) : Shp n c (divL m i col) := h.set i (by rw [List.length_map]; exact h.row hi)
theorem ent_divL {n c : Nat} {m : Mat} (h : Shp n c m) {i : Nat} (hi : i < n) (col k j : Nat) : ent (divL m i col) k j = if k = i then ent m i j / ent m i col else ent m k j := by
  unfold divL
  rw [ent_set (by rw [h.1]; exact hi), getD_map_div]; rfl
theorem Shp.above {n c : Nat} {m : Mat} (h : Shp n c m) {t : Nat} (ht : t < n) (col s : Nat) : Shp n c (above m t col s) :=
  h.rows fun i hi r hr => by
    split
    · rw [elimL_len _ _ _ (by rw [hr, h.row ht]), h.row ht]
    · exact hr
theorem ent_above {n c : Nat} {m : Mat} (h : Shp n c m) {t : Nat} (ht : t < n) (col s i j : Nat) : ent (above m t col s) i j = if i < t ∧ i < s then ent m i j - (ent m i col / ent m t col) * ent m t j else ent m i j := by
  by_cases hi : i < n
  · unfold Lin.above
    rw [ent_rows (by rw [h.1]; exact hi)]
    by_cases a : i < t ∧ i < s
    · simp only [a, and_self, if_true]
      rw [elimL_get _ _ _ _ (by rw [h.row hi, h.row ht])]; rfl
    · rw [if_neg a, if_neg a]; rfl
  · rw [ent_out (h.above ht col s) (.inl (by omega)), if_neg (by omega), ent_out h (.inl (by omega))]
theorem re_above {n c : Nat} {m : Mat} (h : Shp n c m) {t : Nat} (ht : t < n) (col s : Nat) : RE n c (ent m) (ent (above m t col s)) 1 :=
  .addmany t ht (fun i => if i < t ∧ i < s then - (ent m i col / ent m t col) else 0)
    (fun i hi e j hj => by rw [ent_above h ht]; split <;> grind) (fun j hj => by rw [ent_above h ht]; simp)
theorem re_divL {n c : Nat} {m : Mat} (h : Shp n c m) {i : Nat} (hi : i < n) (col : Nat) (hne : ent m i col ≠ 0) : RE n c (ent m) (ent (divL m i col)) (1 / ent m i col) :=
  .scale i _ hi (by intro e; grind) (fun j _ => by rw [ent_divL h hi]; simp; grind) (fun r _ hr j _ => by rw [ent_divL h hi, if_neg hr])

noncomputable def dN (m : Mat) (p : List Nat) : Nat → Mat
  | 0 => m
  | t + 1 => dStep (dN m p t) t (p.getD t 0)
/-- What the second phase keeps. -/
structure DOk (n c t : Nat) (m : Mat) (p : List Nat) (s : Mat) : Prop where
  shp : Shp n c s
  ech : Ech n c (ent s) p
  red : Red n t (ent s) p
  re : ∃ d, RE n c (ent m) (ent s) d
theorem DOk.step {n c t : Nat} {m : Mat} {p : List Nat} {s : Mat} (h : DOk n c t m p s) (ht : t < p.length) : DOk n c (t + 1) m p (dStep s t (p.getD t 0)) := by
  have htn : t < n := Nat.lt_of_lt_of_le ht h.ech.le
  have hp : p.getD t 0 = p[t] := by simp [List.getD_eq_getElem?_getD, ht]
  rw [hp]
  have hd := h.shp.divL htn p[t]
  have hpv := h.ech.piv t ht
  have e1 := fun k j => ent_divL h.shp htn p[t] k j
  have e2 := fun i j => ent_above hd htn p[t] t i j
  obtain ⟨d, hre⟩ := h.re
  have hone : ent (divL s t p[t]) t p[t] = 1 := by rw [e1]; simp; grind
  have hrow : ∀ j, ent (dStep s t p[t]) t j = ent s t j / ent s t p[t] := fun j => by
    unfold dStep; rw [e2, if_neg (by omega), e1]; simp
  have := Red.step (g := ent (dStep s t p[t])) h.ech h.red ht hrow (fun i hi j => by
      rw [hrow]; unfold dStep; rw [e2, if_pos ⟨hi, hi⟩, hone, e1, e1, e1, if_neg (by omega), if_neg (by omega), if_pos rfl]; grind) (fun i hi j => by
      unfold dStep; rw [e2, if_neg (by omega), e1, if_neg (by omega)])
  exact ⟨hd.above htn _ _, this.1, this.2, _, hre.trans ((re_divL h.shp htn _ hpv).trans (re_above hd htn _ _))⟩
theorem dN_ok {n c : Nat} {m : Mat} {p : List Nat} (h : Shp n c m) (he : Ech n c (ent m) p) (t : Nat) (ht : t ≤ p.length) : DOk n c t m p (dN m p t) := by
  induction t with
  | zero => exact ⟨h, he, ⟨by intros; omega, by intros; omega⟩, 1, .same fun _ _ _ _ => rfl⟩
  | succ t ih => exact (ih (by omega)).step (by omega)

/-- The program's reduced form. -/
noncomputable def redP (m : Mat) (c : Nat) : Mat × List Nat := (dN (eN m c).1 (eN m c).2.1 (eN m c).2.1.length, (eN m c).2.1)
theorem redP_ok {n c : Nat} {m : Mat} (h : Shp n c m) : Shp n c (redP m c).1 ∧ Rref n c (ent (redP m c).1) (redP m c).2 ∧ ∃ d, RE n c (ent m) (ent (redP m c).1) d := by
  have h1 := eN_ok h c
  have h2 := dN_ok h1.shp h1.ech _ (Nat.le_refl _)
  obtain ⟨d, h3⟩ := h2.re
  exact ⟨h2.shp, h2.ech.rref h2.red, _, h1.re.trans h3⟩

/-- The reference's elimination: rows, pivots, factor. -/
abbrev Sr := Mat × List Nat × Rat
def pv (m : Mat) (t col : Nat) : Mat := m.set t ((m.getD t []).map (· * (1 / ent m t col)))
def out (m : Mat) (t col : Nat) (s : Nat) : Mat := rows m fun i r => if i ≠ t ∧ i < s then List.zipWith (· + ·) r ((m.getD t []).map (· * - r.getD col 0)) else r
noncomputable def rStep (s : Sr) (col : Nat) : Sr :=
  match nzAt s.1 s.2.1.length col with
  | none => s
  | some k => (out (pv (swapL s.1 (s.2.1.length + k) s.2.1.length) s.2.1.length col) s.2.1.length col s.1.length, s.2.1 ++ [col], (if k = 0 then s.2.2 else - s.2.2) * ent (swapL s.1 (s.2.1.length + k) s.2.1.length) s.2.1.length col)
noncomputable def rN (m : Mat) : Nat → Sr
  | 0 => (m, [], 1)
  | k + 1 => rStep (rN m k) k
theorem getD_map_mul (r : List Rat) (a : Rat) (j : Nat) : (r.map (· * a)).getD j 0 = r.getD j 0 * a := by
  simp only [List.getD_eq_getElem?_getD, List.getElem?_map]
  cases r[j]? with
  | none => simp
  | some x => simp
theorem zip_add (a b : List Rat) (h : a.length = b.length) (j : Nat) : (List.zipWith (· + ·) a b).getD j 0 = a.getD j 0 + b.getD j 0 := by
  simp only [List.getD_eq_getElem?_getD, List.getElem?_zipWith]
  by_cases hj : j < a.length
  · simp [hj, show j < b.length by omega]
  · simp [show ¬ j < a.length by omega, show ¬ j < b.length by omega]; grind
theorem Shp.pv {n c : Nat} {m : Mat} (h : Shp n c m) {i : Nat} (hi : i < n) (col : Nat) : Shp n c (pv m i col) := h.set i (by rw [List.length_map]; exact h.row hi)
theorem ent_pv {n c : Nat} {m : Mat} (h : Shp n c m) {i : Nat} (hi : i < n) (col k j : Nat) : ent (pv m i col) k j = if k = i then ent m i j * (1 / ent m i col) else ent m k j := by
  unfold pv
  rw [ent_set (by rw [h.1]; exact hi), getD_map_mul]; rfl
theorem Shp.out {n c : Nat} {m : Mat} (h : Shp n c m) {t : Nat} (ht : t < n) (col s : Nat) : Shp n c (out m t col s) :=
  h.rows fun i hi r hr => by
    split
    · rw [List.length_zipWith, List.length_map, hr, h.row ht]; omega
    · exact hr
theorem ent_outm {n c : Nat} {m : Mat} (h : Shp n c m) {t : Nat} (ht : t < n) (col s i j : Nat) : ent (out m t col s) i j = if i ≠ t ∧ i < s ∧ i < n then ent m i j + ent m t j * - ent m i col else ent m i j := by
  by_cases hi : i < n
  · unfold Lin.out
    rw [ent_rows (by rw [h.1]; exact hi)]
    by_cases a : i ≠ t ∧ i < s
    · rw [if_pos a, if_pos ⟨a.1, a.2, hi⟩, zip_add _ _ (by rw [List.length_map, h.row hi, h.row ht]), getD_map_mul]; rfl
    · rw [if_neg a, if_neg (fun b => a ⟨b.1, b.2.1⟩)]; rfl
  · rw [ent_out (h.out ht col s) (.inl (by omega)), if_neg (by omega), ent_out h (.inl (by omega))]
structure ROk (n c k : Nat) (m : Mat) (s : Sr) : Prop where
  shp : Shp n c s.1
  ref : Rref n k (ent s.1) s.2.1
  re : ∃ d, RE n c (ent m) (ent s.1) d ∧ s.2.2 * d = 1
theorem ROk.step {n c k : Nat} {m : Mat} {s : Sr} (h : ROk n c k m s) : ROk n c (k + 1) m (rStep s k) := by
  obtain ⟨M, p, fac⟩ := s
  have hs : Shp n c M := h.shp
  have he : Rref n k (ent M) p := h.ref
  obtain ⟨d, hr, hd⟩ : ∃ d, RE n c (ent m) (ent M) d ∧ fac * d = 1 := h.re
  have hl := hs.1
  unfold rStep
  dsimp only
  split
  · rename_i hz
    exact ⟨hs, he.skip fun i hi _ => nzAt_none hz i hi, d, hr, hd⟩
  · rename_i q hz
    obtain ⟨h1, h2⟩ := nzAt_some hz
    have hp : p.length < n := by omega
    have hpq : p.length + q < n := by omega
    have hs2 := hs.swap hpq hp
    have hes := fun i j => ent_swap hs hpq hp i j
    have hs3 := hs2.pv hp k
    have hep := fun i j => ent_pv hs2 hp k i j
    have heo := fun i j => ent_outm hs3 hp k M.length i j
    have hpiv : ent (swapL M (p.length + q) p.length) p.length k ≠ 0 := by rw [hes, if_pos rfl]; exact h2
    have hsw : Rref n k (ent (swapL M (p.length + q) p.length)) p := by
      have hsm : ∀ i, i < p.length → ∀ j, ent (swapL M (p.length + q) p.length) i j = ent M i j := fun i hi j => by
        rw [hes, if_neg (by omega), if_neg (by omega)]
      have hz0 : ∀ i, p.length ≤ i → i < n → ∀ j, j < k → ent (swapL M (p.length + q) p.length) i j = 0 := fun i hi hn j hj => by
        rw [hes]; split
        · exact he.below _ (by omega) hpq j hj
        · split
          · exact he.below _ (by omega) hp j hj
          · exact he.below _ hi hn j hj
      refine ⟨he.le, he.lt, he.inc, fun i hi j hj => by rw [hsm i hi]; exact he.left i hi j hj, fun i hi => by rw [hsm i hi]; exact he.one i hi, fun t ht i hi hit => ?_, hz0⟩
      by_cases a : i < p.length
      · rw [hsm i a]; exact he.zero t ht i hi hit
      · exact hz0 i (by omega) hi _ (he.lt t ht)
    have hrow : ∀ j, ent (out (pv (swapL M (p.length + q) p.length) p.length k) p.length k M.length) p.length j = ent (swapL M (p.length + q) p.length) p.length j * (1 / ent (swapL M (p.length + q) p.length) p.length k) := fun j => by
      rw [heo, if_neg (by omega), hep, if_pos rfl]
    refine ⟨hs3.out hp _ _, hsw.push hp hpiv hrow (fun i hi hne j => ?_), ?_⟩
    · rw [hrow, heo, if_pos ⟨hne, by omega, hi⟩, hep, hep, hep, if_neg hne, if_neg hne, if_pos rfl]
    · have hre3 : RE n c (ent (swapL M (p.length + q) p.length)) (ent (pv (swapL M (p.length + q) p.length) p.length k)) (1 / ent (swapL M (p.length + q) p.length) p.length k) :=
        .scale p.length _ hp (by intro e; grind) (fun j _ => by rw [hep]; simp; grind) (fun r _ hr j _ => by rw [hep, if_neg hr])
      have hre4 : RE n c (ent (pv (swapL M (p.length + q) p.length) p.length k)) (ent (out (pv (swapL M (p.length + q) p.length) p.length k) p.length k M.length)) 1 :=
        .addmany p.length hp (fun i => if i ≠ p.length ∧ i < M.length ∧ i < n then - ent (pv (swapL M (p.length + q) p.length) p.length k) i k else 0)
          (fun i hi e j hj => by rw [heo]; split <;> grind) (fun j hj => by rw [heo]; simp)
      by_cases b : q = 0
      · subst b
        rw [Nat.add_zero, swapL_self M _ (by omega)] at hre3 hre4 hpiv ⊢
        exact ⟨_, hr.trans (hre3.trans hre4), by simp; grind⟩
      · exact ⟨_, hr.trans ((re_swap hs hpq hp (by omega)).trans (hre3.trans hre4)), by simp [b]; grind⟩
theorem rN_ok {n c : Nat} {m : Mat} (h : Shp n c m) (k : Nat) : ROk n c k m (rN m k) := by
  induction k with
  | zero => exact ⟨h, Rref.nil _ _, 1, .same fun _ _ _ _ => rfl, by show (1 : Rat) * 1 = 1; grind⟩
  | succ k ih => exact ih.step
/-- Both reduced forms are one. -/
theorem red_eq {n c : Nat} {m : Mat} (h : Shp n c m) : (redP m c).1 = (rN m c).1 ∧ (redP m c).2 = (rN m c).2.1 := by
  obtain ⟨h1, h2, d, h3⟩ := redP_ok h
  have h4 := rN_ok h c
  obtain ⟨e, h5, _⟩ := h4.re
  have := h2.unique h4.ref fun x => ((h3.nul x).symm.trans (h5.nul x))
  exact ⟨h1.ext h4.shp this.2, this.1⟩
end Go.Lin


namespace Go.Lin
open Go.Lim
/-- All numbers of a matrix have at most B digits. -/
def HB (B : Nat) (m : Mat) : Prop := ∀ i j, hq (ent m i j) ≤ B
theorem HB.pos {B : Nat} {m : Mat} (h : HB B m) : 1 ≤ B := Nat.le_trans (hq_pos _) (h 0 0)
theorem HB.mono {B C : Nat} {m : Mat} (h : HB B m) (hBC : B ≤ C) : HB C m := fun i j => Nat.le_trans (h i j) hBC
theorem HB.swap {n c B : Nat} {m : Mat} (h : HB B m) (hs : Shp n c m) {i k : Nat} (hi : i < n) (hk : k < n) : HB B (swapL m i k) := fun r j => by
  rw [ent_swap hs hi hk]; split
  · exact h _ _
  · split
    · exact h _ _
    · exact h _ _
theorem hq_elim {x y z u : Rat} {B : Nat} (hx : hq x ≤ B) (hy : hq y ≤ B) (hz : hq z ≤ B) (hu : hq u ≤ B) : hq (y / z) ≤ 2 * B ∧ hq (y / z * u) ≤ 3 * B ∧ hq (x - y / z * u) ≤ 5 * B := by
  have h1 := hq_div y z
  have h2 := hq_mul (y / z) u
  have h3 := hq_sub x (y / z * u)
  have h4 := hq_pos x
  omega
theorem HB.clear {n c B : Nat} {m : Mat} (h : HB B m) (hs : Shp n c m) {t : Nat} (ht : t < n) (col s : Nat) : HB (5 * B) (clear m t col s) := fun i j => by
  rw [ent_clear hs ht]; split
  · exact (hq_elim (h _ _) (h _ _) (h _ _) (h _ _)).2.2
  · have := h i j; omega
theorem HB.eN {n c B : Nat} {m : Mat} (h : HB B m) (hs : Shp n c m) (k : Nat) : HB (5 ^ (eN m k).2.1.length * B) (eN m k).1 := by
  induction k with
  | zero => simpa [Lin.eN] using h
  | succ k ih =>
    have hk := eN_ok hs k
    show HB (5 ^ (eStep (Lin.eN m k) k).2.1.length * B) (eStep (Lin.eN m k) k).1
    generalize Lin.eN m k = s at ih hk ⊢
    obtain ⟨M, p, odd⟩ := s
    have hM : Shp n c M := hk.shp
    have hl := hM.1
    have hle : p.length ≤ n := hk.ech.le
    unfold eStep
    dsimp only at ih ⊢
    split
    · exact ih
    · split
      · exact ih
      · rename_i e _ q hz
        obtain ⟨h1, h2⟩ := nzAt_some hz
        have := (ih.swap hM (show p.length < n by omega) (show p.length + q < n by omega)).clear (hM.swap (by omega) (by omega)) (show p.length < n by omega) k M.length
        refine this.mono ?_
        rw [List.length_append, List.length_singleton, Nat.pow_succ, Nat.mul_comm _ 5, Nat.mul_assoc]; exact Nat.le_refl _
theorem HB.divL {n c B : Nat} {m : Mat} (h : HB B m) (hs : Shp n c m) {i : Nat} (hi : i < n) (col : Nat) : HB (2 * B) (divL m i col) := fun k j => by
  rw [ent_divL hs hi]; split
  · have := hq_div (ent m i j) (ent m i col); have := h i j; have := h i col; omega
  · have := h k j; omega
theorem hq_elim2 {x y z u : Rat} {B : Nat} (hx : hq x ≤ B) (hy : hq y ≤ B) (hz : hq z ≤ 2 * B) (hu : hq u ≤ 2 * B) : hq (y / z) ≤ 3 * B ∧ hq (y / z * u) ≤ 5 * B ∧ hq (x - y / z * u) ≤ 7 * B := by
  have h1 := hq_div y z
  have h2 := hq_mul (y / z) u
  have h3 := hq_sub x (y / z * u)
  have h4 := hq_pos x
  omega
theorem HB.dStep {n c B : Nat} {m : Mat} (h : HB B m) (hs : Shp n c m) {t : Nat} (ht : t < n) (col s : Nat) : HB (7 * B) (above (Lin.divL m t col) t col s) := fun i j => by
  have hd := hs.divL ht col
  have h2 := h.divL hs ht col
  rw [ent_above hd ht]; split
  · refine (hq_elim2 ?_ ?_ (h2 _ _) (h2 _ _)).2.2
    · rw [ent_divL hs ht, if_neg (by omega)]; exact h _ _
    · rw [ent_divL hs ht, if_neg (by omega)]; exact h _ _
  · have := h2 i j; omega
theorem HB.dN {n c B : Nat} {m : Mat} {p : List Nat} (h : HB B m) (hs : Shp n c m) (he : Ech n c (ent m) p) (t : Nat) (ht : t ≤ p.length) : HB (7 ^ t * B) (dN m p t) := by
  induction t with
  | zero => simpa [Lin.dN] using h
  | succ t ih =>
    have hk := dN_ok hs he t (by omega)
    have hle := he.le
    refine ((ih (by omega)).dStep hk.shp (show t < n by omega) (p.getD t 0) t).mono ?_
    rw [Nat.pow_succ, Nat.mul_comm _ 7, Nat.mul_assoc]; exact Nat.le_refl _
theorem HB.pv {n c B : Nat} {m : Mat} (h : HB B m) (hs : Shp n c m) {i : Nat} (hi : i < n) (col : Nat) : HB (3 * B) (pv m i col) := fun k j => by
  rw [ent_pv hs hi]; split
  · have h1 := hq_mul (ent m i j) (1 / ent m i col); have h2 := hq_div 1 (ent m i col); have := h i j; have := h i col; have := hq_pos (ent m i j)
    have h3 : hq 1 = 1 := by decide +kernel
    omega
  · have := h k j; omega
theorem HB.out {n c B : Nat} {m : Mat} (h : HB B m) (hs : Shp n c m) {t : Nat} (ht : t < n) (col s : Nat) : HB (6 * B) (Lin.out (Lin.pv m t col) t col s) := fun i j => by
  have hd := hs.pv ht col
  have h2 := h.pv hs ht col
  rw [ent_outm hd ht]; split
  · rename_i a
    have e : ∀ j, ent (Lin.pv m t col) i j = ent m i j := fun j => by rw [ent_pv hs ht, if_neg a.1]
    rw [e, e]
    have h3 := hq_mul (ent (Lin.pv m t col) t j) (- ent m i col)
    have h4 := hq_add (ent m i j) (ent (Lin.pv m t col) t j * - ent m i col)
    rw [hq_neg] at h3
    have := h2 t j; have := h i j; have := h i col; have := h.pos
    omega
  · have := h2 i j; omega
theorem HB.rN {n c B : Nat} {m : Mat} (h : HB B m) (hs : Shp n c m) (k : Nat) : HB (6 ^ (rN m k).2.1.length * B) (rN m k).1 ∧ hq (rN m k).2.2 ≤ 6 ^ (rN m k).2.1.length * B := by
  induction k with
  | zero => exact ⟨by simpa [Lin.rN] using h, by simp [Lin.rN]; exact h.pos⟩
  | succ k ih =>
    have hk := rN_ok hs k
    show HB (6 ^ (rStep (Lin.rN m k) k).2.1.length * B) (rStep (Lin.rN m k) k).1 ∧ hq (rStep (Lin.rN m k) k).2.2 ≤ 6 ^ (rStep (Lin.rN m k) k).2.1.length * B
    generalize Lin.rN m k = s at ih hk ⊢
    obtain ⟨M, p, fac⟩ := s
    have hM : Shp n c M := hk.shp
    have hl := hM.1
    have hle : p.length ≤ n := hk.ref.le
    unfold rStep
    dsimp only at ih ⊢
    split
    · exact ih
    · rename_i e q hz
      obtain ⟨h1, h2⟩ := nzAt_some hz
      have hsw := (ih.1.swap hM (show p.length + q < n by omega) (show p.length < n by omega))
      have := hsw.out (hM.swap (by omega) (by omega)) (show p.length < n by omega) k M.length
      have he : 6 * (6 ^ p.length * B) = 6 ^ (p ++ [k]).length * B := by
        rw [List.length_append, List.length_singleton, Nat.pow_succ, Nat.mul_comm _ 6, Nat.mul_assoc]
      refine ⟨this.mono (Nat.le_of_eq he), ?_⟩
      dsimp only
      rw [← he]
      have h3 := hsw p.length k
      have h4 : hq (if q = 0 then fac else -fac) ≤ 6 ^ p.length * B := by
        split
        · exact ih.2
        · rw [hq_neg]; exact ih.2
      have h5 := hq_mul (if q = 0 then fac else -fac) (ent (swapL M (p.length + q) p.length) p.length k)
      omega
end Go.Lin


namespace Go.Lin
theorem lt1 {P : Nat → Prop} (h0 : P 0) (i : Nat) (hi : i < 1) : P i := by
  match i, hi with
  | 0, _ => exact h0
/-- The product of two matrices. -/
def mul (n : Nat) (f g : F2) : F2 := fun i j => sm n fun k => f i k * g k j
end Go.Lin


namespace Go.Lin
theorem RE.congr {n c : Nat} {f f' g : F2} {d : Rat} (h : RE n c f g d) (e : Eqm n c f' f) : RE n c f' g d := (RE.same e).then_ h (by grind)
/-- Row operations on a product are row operations on its first factor. -/
theorem RE.factor {n c r : Nat} {f g : F2} {d : Rat} (h : RE n c f g d) (b : F2) (hf : ∃ a, Eqm n c f (mul r a b)) : ∃ a, Eqm n c g (mul r a b) := by
  induction h with
  | same h => obtain ⟨a, ha⟩ := hf; exact ⟨a, fun i hi j hj => (h i hi j hj).symm.trans (ha i hi j hj)⟩
  | swap i k hi hk hik h1 h2 h3 =>
    obtain ⟨a, ha⟩ := hf
    refine ⟨fun q => if q = i then a k else if q = k then a i else a q, fun q hq j hj => ?_⟩
    by_cases e : q = i
    · subst e; rw [h1 j hj, ha k hk j hj]; simp [mul]
    · by_cases e2 : q = k
      · subst e2; rw [h2 j hj, ha i hi j hj]; simp [mul, e]
      · rw [h3 q hq e e2 j hj, ha q hq j hj]; simp [mul, e, e2]
  | scale i x hi hx h1 h3 =>
    obtain ⟨a, ha⟩ := hf
    refine ⟨fun q => if q = i then fun k => x * a i k else a q, fun q hq j hj => ?_⟩
    by_cases e : q = i
    · subst e; rw [h1 j hj, ha q hq j hj]; simp only [mul, if_true]; rw [← sm_mul]; exact sm_congr fun k _ => by grind
    · rw [h3 q hq e j hj, ha q hq j hj]; simp [mul, e]
  | add i k x hi hk hik h1 h3 =>
    obtain ⟨a, ha⟩ := hf
    refine ⟨fun q => if q = i then fun y => a i y + x * a k y else a q, fun q hq j hj => ?_⟩
    by_cases e : q = i
    · subst e; rw [h1 j hj, ha q hq j hj, ha k hk j hj]; simp only [mul, if_true]; rw [← sm_mul, ← sm_add]; exact sm_congr fun k _ => by grind
    · rw [h3 q hq e j hj, ha q hq j hj]; simp [mul, e]
  | trans _ _ ih1 ih2 => exact ih2 (ih1 hf)
/-- The null vectors, one for each column that is no pivot. -/
def nullL (r : F2) (p : List Nat) (c : Nat) : Mat := ((List.range c).filter (· ∉ p)).map fun j => (List.range c).map (nv r p j)
/-- What 'Solve' reads off the reduced form of the widened matrix: 0 for the free unknowns. -/
def solX (r : F2) (p : List Nat) (c : Nat) : Nat → Rat := fun x => match p.findIdx? (· == x) with | some i => r i c | none => 0
/-- The widened matrix. -/
def wideF (c : Nat) (f : F2) (b : Nat → Rat) : F2 := fun i j => if j = c then b i else f i j
end Go.Lin


namespace Go.Lin
/-- Is a matrix well-formed? -/
def formedB {α : Type} (m : List (List α)) : Bool := decide (m.length ≤ 96) && m.all fun r => decide (1 ≤ r.length ∧ r.length ≤ 96 ∧ r.length = (m.getD 0 []).length)
def colsL {α : Type} (m : List (List α)) : Nat := (m.getD 0 []).length
theorem formedB_true {α : Type} {m : List (List α)} : formedB m = true ↔ m.length ≤ 96 ∧ ∀ i (hi : i < m.length), 1 ≤ m[i].length ∧ m[i].length ≤ 96 ∧ m[i].length = colsL m := by
  unfold formedB colsL
  rw [Bool.and_eq_true, decide_eq_true_eq, List.all_eq_true]
  constructor
  · rintro ⟨h1, h2⟩
    exact ⟨h1, fun i hi => by simpa using h2 _ (List.getElem_mem hi)⟩
  · rintro ⟨h1, h2⟩
    refine ⟨h1, fun r hr => ?_⟩
    obtain ⟨i, hi, rfl⟩ := List.getElem_of_mem hr
    simpa using h2 i hi
theorem formedB_false {α : Type} {m : List (List α)} (i : Nat) (hi : i < m.length) (h : ¬ (1 ≤ m[i].length ∧ m[i].length ≤ 96 ∧ m[i].length = colsL m)) : false = formedB m := by
  symm
  cases hf : formedB m
  · rfl
  · exact absurd ((formedB_true.1 hf).2 i hi) h
theorem colsL_pos {α : Type} {m : List (List α)} (h : 0 < m.length) : colsL m = m[0].length := by simp [colsL, List.getD_eq_getElem?_getD, h]
theorem formedB_shp {m : List (List Rat)} (h : formedB m = true) : Shp m.length (colsL m) m ∧ m.length ≤ 96 ∧ colsL m ≤ 96 ∧ (0 < m.length → 1 ≤ colsL m) ∧ (m.length = 0 → colsL m = 0) := by
  have h1 := formedB_true.1 h
  refine ⟨⟨rfl, fun r hr => ?_⟩, h1.1, ?_, fun h0 => ?_, fun h0 => ?_⟩
  · obtain ⟨i, hi, rfl⟩ := List.getElem_of_mem hr
    exact (h1.2 i hi).2.2
  · by_cases h0 : 0 < m.length
    · have := h1.2 0 h0; omega
    · have : m = [] := List.eq_nil_of_length_eq_zero (by omega)
      subst this; simp [colsL]
  · have := h1.2 0 h0; omega
  · have : m = [] := List.eq_nil_of_length_eq_zero h0
    subst this; rfl
end Go.Lin
namespace Go.Proofs.YtjbhcniiioepgaaGreat
open Go.RowKit Go.Rep Go.Lim Go.Lin

theorem columns_any {R : Mem → Value → Rat → Prop} (X : Nat → Bool) (w : World) (u : Value) (m : List (List Rat)) (hu : SlV (SlV R 3) 1 (mk X w) u m) : Calls Tryz.prog 96 #[u] w (fun e w' => w' = w ∧ e = .returned (.int .i64 (colsL m : Int))) := by
  obtain ⟨ao, ca, rfl, hca, hsa⟩ := hu
  have hha := hsa.hd
  by_cases h : 0 < m.length
  · obtain ⟨a1, c1, hX1, hc1, hcl1, hq1⟩ := hsa.row 0 h
    have k00 := hc1.out noY w (ExtX.refl _) rfl
    have hc := hid (colsL_pos h)
    have hI : ((m.length : Int) == 0) = false := beqF (by omega)
    go_enter Tryz.func96, Tryz.ntmps96
    go_wp2_with (with_reducible refine up_ix1 slRats (by omega) (by assumption) ?_)
    go_ret
    exact ⟨rfl, ret_int (by rw [hc.out])⟩
  · have hc : Hid (colsL m = 0) := hid (by
      have : m = [] := List.eq_nil_of_length_eq_zero (by omega)
      subst this; rfl)
    have hI : ((m.length : Int) == 0) = true := beqT (by omega)
    go_enter Tryz.func96, Tryz.ntmps96
    go_wp2_with (with_reducible refine up_ix1 slRats (by omega) (by assumption) ?_)
    go_ret
    exact ⟨rfl, ret_int (by rw [hc.out]; rfl)⟩

set_option maxRecDepth 100000 in
theorem formed_any {R : Mem → Value → Rat → Prop} (X : Nat → Bool) (w : World) (u : Value) (m : List (List Rat)) (hu : SlV (SlV R 3) 1 (mk X w) u m) (hl : m.length ≤ 1099511627776) : Calls Tryz.prog 83 #[u] w (fun e w' => w' = w ∧ e = .returned (.bool (formedB m))) := by
  obtain ⟨ao, ca, rfl, hca, hsa⟩ := hu
  have hha := hsa.hd
  by_cases h96 : 96 < m.length
  · have hv : Hid (false = formedB m) := hid (by
      symm
      cases hf : formedB m
      · rfl
      · have := (formedB_true.1 hf).1; omega)
    have hI : (96 : Int) < (m.length : Int) := by omega
    go_enter Tryz.func83, Tryz.ntmps83
    go_wp2_with fail
    go_ret
    exact ⟨rfl, ret_bool hv.out⟩
  · have hI : ¬ (96 : Int) < (m.length : Int) := by omega
    go_enter Tryz.func83, Tryz.ntmps83
    go_wp2_with fail
    go_loop [10] (fun c => ∃ (i : Nat), c = .int .i64 i ∧ i ≤ m.length ∧ Hid (∀ q, q < i → ∀ hq : q < m.length, 1 ≤ m[q].length ∧ m[q].length ≤ 96 ∧ m[q].length = colsL m)) (fun c => m.length - (intOf c).toNat)
    case atStart => exact ⟨0, rfl, Nat.zero_le _, fun q hq => by omega⟩
    case round =>
      obtain ⟨i, rfl, hi, hok⟩ := hrel
      by_cases hlt : i < m.length
      · have h0 : 0 < m.length := by omega
        obtain ⟨a1, c1, hX1, hc1, hcl1, hq1⟩ := hsa.row i hlt
        obtain ⟨a2, c2, hX2, hc2, hcl2, hq2⟩ := hsa.row 0 h0
        have k00 := hc1.out noY w (ExtX.refl _) rfl
        have k10 := hc2.out noY w (ExtX.refl _) rfl
        have hcol := colsL_pos h0
        have hno := hid (formedB_false i hlt)
        rw [← hcol] at k10
        obtain ⟨x, hx⟩ : ∃ x, m[i].length = x := ⟨_, rfl⟩
        obtain ⟨y, hy⟩ : ∃ y, colsL m = y := ⟨_, rfl⟩
        rw [hx] at k00 hno
        rw [hy] at k10 hno
        have hst : Hid (1 ≤ x ∧ x ≤ 96 ∧ x = y → ∀ hq : i < m.length, 1 ≤ m[i].length ∧ m[i].length ≤ 96 ∧ m[i].length = colsL m) := hid fun h hq => by rw [hx, hy]; exact h
        clear hx hy hcol hc1 hc2 hq1 hq2 hcl1 hcl2
        by_cases hx0 : x = 0
        · have d0 : ((x : Int) == 0) = true := beqT (by omega)
          have hv := hid (hno.out (by omega))
          clear hx0
          go_wp2_with (with_reducible refine up_ix1 slRats (by omega) (by assumption) ?_)
          go_ret
          exact ⟨rfl, ret_bool hv.out⟩
        · have d0 : ((x : Int) == 0) = false := beqF (by omega)
          by_cases hx1 : 96 < x
          · have d1 : (96 : Int) < (x : Int) := by omega
            have hv := hid (hno.out (by omega))
            clear hx0
            go_wp2_with (with_reducible refine up_ix1 slRats (by omega) (by assumption) ?_)
            go_ret
            exact ⟨rfl, ret_bool hv.out⟩
          · have d1 : ¬ (96 : Int) < (x : Int) := by omega
            by_cases hxy : x = y
            · have d2 : ((x : Int) != (y : Int)) = false := bneF (by omega)
              have hst2 := hid (hst.out ⟨by omega, by omega, hxy⟩)
              clear hx0 hxy
              go_wp2_with (with_reducible refine up_ix1 slRats (by omega) (by assumption) ?_)
              go_round
              case rel => exact ⟨i + 1, by go_num, by omega, upto_succ hok.out hst2.out⟩
              case measure => simp [intOf]; omega
            · have d2 : ((x : Int) != (y : Int)) = true := bneT (by omega)
              have hv := hid (hno.out (by omega))
              clear hx0 hxy
              go_wp2_with (with_reducible refine up_ix1 slRats (by omega) (by assumption) ?_)
              go_ret
              exact ⟨rfl, ret_bool hv.out⟩
      · have hv : Hid (true = formedB m) := hid (by
          symm
          exact formedB_true.2 ⟨by omega, fun q hq => hok.out q (by omega) hq⟩)
        go_wp2_with fail
        go_ret
        exact ⟨rfl, ret_bool hv.out⟩
end Go.Proofs.YtjbhcniiioepgaaGreat


namespace Go.Rep
open Go.RowKit Go.Lim
/-- A slice's header: its address, length, capacity. -/
abbrev Hdr := Option Addr × Nat × Nat
def HdR : Mem → Value → Hdr → Prop := fun _ u x => u = .slice x.1 x.2.1 x.2.2
theorem HdR.elem : Elem HdR 1 := ⟨fun _ _ _ _ _ h => h, by rintro h u x rfl; rfl, by
  rintro h u x rfl c hc; simp [cellsL, Value.cells] at hc; subst hc; rfl, Nat.one_pos⟩
theorem HdR.one : OneCell HdR := by rintro h u x rfl; rfl
theorem HdR.pure : ∀ h h' u x, HdR h u x → HdR h' u x := fun _ _ _ _ h => h
/-- What a step that turns other blocks leaves of a list of plain values. -/
theorem OL.frame {α : Type} {R : Mem → Value → α → Prop} {sz : Nat} {X : Nat → Bool} {base : Nat} {e : TypeId} {w w' : World} {ao : Option Addr} {cap : Nat} {l : List α} (hR0 : ∀ h h' u x, R h u x → R h' u x) {Y Z : Nat → Bool} (h : OL R sz X base e w ao cap l) (hE : ExtX Y w w') (hY : ∀ k, ob ao k = true → Y k = false) (hZ : ∀ k, ob ao k = true → Z k = false) : OL R sz Z base e w' ao cap l := by
  have hb := fun k (hk : ob ao k = true) => h.block hk
  obtain ⟨hx, us, h1, h2, h22, h3, h5⟩ := h
  refine ⟨hZ, us, h1, h2, h22, ?_, fun i hi hi' => hR0 _ _ _ _ (h5 i hi hi')⟩
  refine ⟨h3.1, ?_⟩
  rcases h3.2 with h4 | ⟨g, c, cur, hv, h6, h7, h8⟩
  · exact .inl h4
  · refine .inr ⟨g, c, cur, hv, h6, ?_, h8⟩
    simp at hv
    obtain ⟨rfl, rfl⟩ := hv
    have hk : ob (some ⟨g, 0, none⟩) g = true := by simp [ob]
    rw [hE.block g (hb g hk).2 (hY g hk), h7]
/-- A mask without the blocks of one slice. -/
def cut (Z : Nat → Bool) (ao : Option Addr) : Nat → Bool := fun k => Z k && !ob ao k
theorem un_cut {Z : Nat → Bool} {ao : Option Addr} (h : ∀ k, ob ao k = true → Z k = true) : un (cut Z ao) ao = Z := by
  funext k
  have := h k
  unfold un cut
  cases hb : ob ao k <;> cases hz : Z k <;> simp_all
theorem cut_of {Z : Nat → Bool} {ao : Option Addr} {k : Nat} (h : cut Z ao k = true) : Z k = true ∧ ob ao k = false := by simpa [cut] using h
theorem cut_mk {Z : Nat → Bool} {ao : Option Addr} {k : Nat} (h : Z k = true) (h2 : ob ao k = false) : cut Z ao k = true := by simp [cut, h, h2]
/-- The blocks of all rows. -/
def obs (hs : List Hdr) : Nat → Bool := fun k => hs.any fun h => ob h.1 k
theorem obs_get {hs : List Hdr} {i : Nat} (hi : i < hs.length) {k : Nat} (h : ob hs[i].1 k = true) : obs hs k = true := by
  unfold obs; rw [List.any_eq_true]; exact ⟨_, List.getElem_mem hi, h⟩
theorem obs_of {hs : List Hdr} {k : Nat} (h : obs hs k = true) : ∃ i, ∃ hi : i < hs.length, ob hs[i].1 k = true := by
  unfold obs at h; rw [List.any_eq_true] at h
  obtain ⟨x, hx, h2⟩ := h
  obtain ⟨i, hi, rfl⟩ := List.getElem_of_mem hx
  exact ⟨i, hi, h2⟩
/-- All blocks of a matrix, and those of X. -/
def mz (X : Nat → Bool) (ao : Option Addr) (hs : List Hdr) : Nat → Bool := fun k => X k || ob ao k || obs hs k
/-- The blocks of a matrix. -/
def mb (ao : Option Addr) (hs : List Hdr) : Nat → Bool := fun k => ob ao k || obs hs k
theorem mz_iff {X : Nat → Bool} {ao : Option Addr} {hs : List Hdr} {k : Nat} : mz X ao hs k = true ↔ X k = true ∨ ob ao k = true ∨ obs hs k = true := by simp [mz, or_assoc]
theorem mb_iff {ao : Option Addr} {hs : List Hdr} {k : Nat} : mb ao hs k = true ↔ ob ao k = true ∨ obs hs k = true := by simp [mb]

/-- The matrix m lies in slices that the call itself made: the outer one holds the rows' headers hs; the numbers are read outside of all of them and of X. -/
structure MO (X : Nat → Bool) (base : Nat) (e1 e2 : TypeId) (w : World) (ao : Option Addr) (cap : Nat) (hs : List Hdr) (m : List (List Rat)) : Prop where
  outer : OL HdR 1 X base e1 w ao cap hs
  len : hs.length = m.length
  rlen : ∀ i (hi : i < hs.length) (hi' : i < m.length), hs[i].2.1 = m[i].length
  row : ∀ i (hi : i < hs.length) (hi' : i < m.length), OL QC 3 (cut (mz X ao hs) hs[i].1) base e2 w hs[i].1 hs[i].2.2 m[i]
  sep : ∀ i (hi : i < hs.length) k, ob hs[i].1 k = true → X k = false ∧ ob ao k = false
  dis : ∀ i j (hi : i < hs.length) (hj : j < hs.length), i ≠ j → ∀ k, ob hs[i].1 k = true → ob hs[j].1 k = false

section
variable {X : Nat → Bool} {base : Nat} {e1 e2 : TypeId} {w w' : World} {ao : Option Addr} {cap : Nat} {hs : List Hdr} {m : List (List Rat)}
theorem MO.out_sep (h : MO X base e1 e2 w ao cap hs m) {k : Nat} (hk : ob ao k = true) : X k = false ∧ obs hs k = false := by
  refine ⟨h.outer.1 k hk, ?_⟩
  cases ho : obs hs k
  · rfl
  · obtain ⟨i, hi, h2⟩ := obs_of ho
    have := (h.sep i hi k h2).2
    rw [hk] at this; simp at this
theorem MO.obs_sep (h : MO X base e1 e2 w ao cap hs m) {k : Nat} (hk : obs hs k = true) : X k = false ∧ ob ao k = false := by
  obtain ⟨i, hi, h2⟩ := obs_of hk
  exact h.sep i hi k h2
theorem MO.mb_X (h : MO X base e1 e2 w ao cap hs m) {k : Nat} (hk : mb ao hs k = true) : X k = false := by
  rcases mb_iff.1 hk with a | a
  · exact (h.out_sep a).1
  · exact (h.obs_sep a).1
theorem MO.mb_block (h : MO X base e1 e2 w ao cap hs m) {k : Nat} (hk : mb ao hs k = true) : base ≤ k ∧ k < w.heap.size := by
  rcases mb_iff.1 hk with a | a
  · exact h.outer.block a
  · obtain ⟨i, hi, h2⟩ := obs_of a
    exact (h.row i hi (by have := h.len; omega)).block h2
theorem MO.mz_sub (_h : MO X base e1 e2 w ao cap hs m) {i : Nat} (hi : i < hs.length) (k : Nat) (hk : ob hs[i].1 k = true) : mz X ao hs k = true := mz_iff.2 (.inr (.inr (obs_get hi hk)))
theorem MO.hz (h : MO X base e1 e2 w ao cap hs m) (hX : HX X w) : HX (mz X ao hs) w := fun k hk => by
  rcases mz_iff.1 hk with a | a
  · exact hX k a
  · exact (h.mb_block (mb_iff.2 a)).2
/-- A step that turns only what X hides, or new blocks. -/
theorem MO.ext (h : MO X base e1 e2 w ao cap hs m) {Y X' : Nat → Bool} (hE : ExtX Y w w') (hY : ∀ k, k < w.heap.size → Y k = true → X k = true) (hZ : ∀ k, k < w.heap.size → X' k = true → X k = true) : MO X' base e1 e2 w' ao cap hs m := by
  have hX' : ∀ k, mb ao hs k = true → X' k = false := fun k hk => by
    cases hh : X' k
    · rfl
    · have := hZ k (h.mb_block hk).2 hh; rw [h.mb_X hk] at this; simp at this
  have hYm : ∀ k, mb ao hs k = true → Y k = false := fun k hk => by
    cases hh : Y k
    · rfl
    · have := hY k (h.mb_block hk).2 hh; rw [h.mb_X hk] at this; simp at this
  refine ⟨h.outer.ext HdR.elem hE hY hZ, h.len, h.rlen, fun i hi hi' => ?_, fun i hi k hk => ⟨hX' k (mb_iff.2 (.inr (obs_get hi hk))), (h.sep i hi k hk).2⟩, h.dis⟩
  refine (h.row i hi hi').ext QC.elem hE (fun k hk hy => cut_mk (mz_iff.2 (.inl (hY k hk hy))) ?_) (fun k hk hy => ?_)
  · cases hb : ob hs[i].1 k
    · rfl
    · have := hYm k (mb_iff.2 (.inr (obs_get hi hb))); rw [hy] at this; simp at this
  · obtain ⟨h1, h2⟩ := cut_of hy
    refine cut_mk (mz_iff.2 ?_) h2
    rcases mz_iff.1 h1 with a | a
    · exact .inl (hZ k hk a)
    · exact .inr a
theorem MO.ext0 (h : MO X base e1 e2 w ao cap hs m) (hE : Ext w w') : MO X base e1 e2 w' ao cap hs m :=
  h.ext hE (fun k _ hk => by simp [noY] at hk) (fun _ _ h => h)
/-- One row was written. -/
theorem MO.upd (h : MO X base e1 e2 w ao cap hs m) {i : Nat} (hi : i < hs.length) {l : List Rat} (hE : ExtX (ob hs[i].1) w w') (hl : ∀ hi' : i < m.length, l.length = m[i].length) (hr : OL QC 3 (cut (mz X ao hs) hs[i].1) base e2 w' hs[i].1 hs[i].2.2 l) : MO X base e1 e2 w' ao cap hs (m.set i l) := by
  refine ⟨h.outer.frame HdR.pure hE (fun k hk => ?_) h.outer.1, by rw [List.length_set]; exact h.len, fun j hj hj' => ?_, fun j hj hj' => ?_, h.sep, h.dis⟩
  · cases hb : ob hs[i].1 k
    · rfl
    · have := (h.sep i hi k hb).2; rw [hk] at this; simp at this
  · rw [List.getElem_set]
    split
    · subst_vars; rw [hl (by have := h.len; omega)]; exact h.rlen _ hj (by have := h.len; omega)
    · exact h.rlen j hj (by simpa using hj')
  · rw [List.getElem_set]
    split
    · subst_vars; exact hr
    · rename_i e
      exact (h.row j hj (by simpa using hj')).ext QC.elem hE (fun k _ hk => cut_mk (h.mz_sub hi k hk) (h.dis i j hi hj e k hk)) (fun _ _ hk => hk)
/-- The rows were exchanged. -/
theorem MO.perm (h : MO X base e1 e2 w ao cap hs m) {hs' : List Hdr} {m' : List (List Rat)} (f : Nat → Nat) (hf : ∀ i, i < hs.length → f i < hs.length) (hinj : ∀ i j, i < hs.length → j < hs.length → f i = f j → i = j) (hsurj : ∀ i, i < hs.length → ∃ j, j < hs.length ∧ f j = i)
    (hl : hs'.length = hs.length) (hlm : m'.length = m.length) (hh : ∀ i (hi : i < hs'.length) (hi' : f i < hs.length), hs'[i] = hs[f i]) (hm : ∀ i (hi : i < m'.length) (hi' : f i < m.length), m'[i] = m[f i])
    (hE : ExtX (ob ao) w w') (ho : OL HdR 1 X base e1 w' ao cap hs') : MO X base e1 e2 w' ao cap hs' m' := by
  have hlen := h.len
  have hobs : ∀ k, obs hs' k = true ↔ obs hs k = true := fun k => by
    constructor
    · intro hk
      obtain ⟨i, hi, h2⟩ := obs_of hk
      have hfi := hf i (by omega)
      rw [hh i hi hfi] at h2
      exact obs_get hfi h2
    · intro hk
      obtain ⟨i, hi, h2⟩ := obs_of hk
      obtain ⟨j, hj, rfl⟩ := hsurj i hi
      refine obs_get (i := j) (by omega) ?_
      rw [hh j (by omega) hi]; exact h2
  have hz : mz X ao hs' = mz X ao hs := by
    funext k
    rw [Bool.eq_iff_iff, mz_iff, mz_iff, hobs]
  refine ⟨ho, by omega, fun i hi hi' => ?_, fun i hi hi' => ?_, fun i hi k hk => ?_, fun i j hi hj hij k hk => ?_⟩
  · have hfi := hf i (by omega)
    rw [hh i hi hfi, hm i hi' (by omega)]; exact h.rlen _ hfi (by omega)
  · have hfi := hf i (by omega)
    rw [hz, hh i hi hfi, hm i hi' (by omega)]
    exact (h.row _ hfi (by omega)).ext QC.elem hE (fun k _ hk => cut_mk (mz_iff.2 (.inr (.inl hk))) (by
      cases hb : ob hs[f i].1 k
      · rfl
      · have := (h.sep _ hfi k hb).2; rw [hk] at this; simp at this)) (fun _ _ hk => hk)
  · have hfi := hf i (by omega)
    rw [hh i hi hfi] at hk; exact h.sep _ hfi k hk
  · have hfi := hf i (by omega)
    have hfj := hf j (by omega)
    rw [hh i hi hfi] at hk
    rw [hh j hj hfj]
    exact h.dis _ _ hfi hfj (fun e => hij (hinj i j (by omega) (by omega) e)) k hk
/-- A row is laid where there was none. -/
theorem MO.put (h : MO X base e1 e2 w ao cap hs m) {i : Nat} (hi : i < hs.length) (hn : hs[i].1 = none) {a : Option Addr} {c : Nat} {l : List Rat} {w1 : World} 
    (hE1 : Ext w w1) (hnew : ∀ k, ob a k = true → w.heap.size ≤ k) (hr : OL QC 3 (mz X ao hs) base e2 w1 a c l) (hX : HX X w)
    (hE : ExtX (ob ao) w1 w') (ho : OL HdR 1 X base e1 w' ao cap (hs.set i (a, l.length, c))) : MO X base e1 e2 w' ao cap (hs.set i (a, l.length, c)) (m.set i l) := by
  have hlen := h.len
  have hE' : ExtX (ob ao) w w' := (ExtX.of hE1).trans hE
  have hobs : ∀ k, obs (hs.set i (a, l.length, c)) k = true ↔ obs hs k = true ∨ ob a k = true := fun k => by
    constructor
    · intro hk
      obtain ⟨j, hj, h2⟩ := obs_of hk
      rw [List.getElem_set] at h2
      split at h2
      · exact .inr h2
      · exact .inl (obs_get (by simpa using hj) h2)
    · rintro (hk | hk)
      · obtain ⟨j, hj, h2⟩ := obs_of hk
        refine obs_get (i := j) (by simpa using hj) ?_
        rw [List.getElem_set]
        split
        · subst_vars; rw [hn] at h2; simp [ob] at h2
        · exact h2
      · refine obs_get (i := i) (by simpa using hi) ?_
        rw [List.getElem_set]; simpa using hk
  have hmz : ∀ k, mz X ao (hs.set i (a, l.length, c)) k = true ↔ mz X ao hs k = true ∨ ob a k = true := fun k => by
    rw [mz_iff, mz_iff, hobs]
    constructor
    · rintro (h | h | h | h)
      · exact .inl (.inl h)
      · exact .inl (.inr (.inl h))
      · exact .inl (.inr (.inr h))
      · exact .inr h
    · rintro ((h | h | h) | h)
      · exact .inl h
      · exact .inr (.inl h)
      · exact .inr (.inr (.inl h))
      · exact .inr (.inr (.inr h))
  have hold : ∀ k, mb ao hs k = true → ob a k = false := fun k hk => by
    cases hb : ob a k
    · rfl
    · have := hnew k hb; have := (h.mb_block hk).2; omega
  have hobao : ∀ k, ob a k = true → ob ao k = false := fun k hk => by
    cases hb : ob ao k
    · rfl
    · have := hold k (mb_iff.2 (.inl hb)); rw [hk] at this; simp at this
  refine ⟨ho, by simp [hlen], fun j hj hj' => ?_, fun j hj hj' => ?_, fun j hj k hk => ?_, fun j q hj hq hjq k hk => ?_⟩
  · rw [List.getElem_set, List.getElem_set]
    split
    · rfl
    · exact h.rlen j (by simpa using hj) (by simpa using hj')
  · have hj0 : j < hs.length := by simpa using hj
    have hj1 : j < m.length := by simpa using hj'
    by_cases e : i = j
    · subst e
      simp only [List.getElem_set_self]
      refine hr.ext QC.elem hE (fun k _ hk => mz_iff.2 (.inr (.inl hk))) (fun k hk hz => ?_)
      obtain ⟨h1, h2⟩ := cut_of hz
      rcases (hmz k).1 h1 with h3 | h3
      · exact h3
      · rw [h2] at h3; simp at h3
    · simp only [List.getElem_set_ne e]
      refine (h.row j hj0 hj1).ext QC.elem hE' (fun k _ hk => cut_mk (mz_iff.2 (.inr (.inl hk))) ?_) (fun k hk hz => ?_)
      · cases hb : ob hs[j].1 k
        · rfl
        · have := (h.sep j hj0 k hb).2; rw [hk] at this; simp at this
      · obtain ⟨h1, h2⟩ := cut_of hz
        rcases (hmz k).1 h1 with h3 | h3
        · exact cut_mk h3 h2
        · have := hnew k h3; omega
  · rw [List.getElem_set] at hk
    split at hk
    · exact ⟨by
        cases hb : X k
        · rfl
        · have := hX k hb; have := hnew k hk; omega, hobao k hk⟩
    · exact h.sep j (by simpa using hj) k hk
  · have hj0 : j < hs.length := by simpa using hj
    have hq0 : q < hs.length := by simpa using hq
    rw [List.getElem_set] at hk ⊢
    split at hk
    · rw [if_neg (by omega)]
      cases hb : ob hs[q].1 k
      · rfl
      · have := hold k (mb_iff.2 (.inr (obs_get hq0 hb))); dsimp only at hk; rw [hk] at this; simp at this
    · split
      · exact hold k (mb_iff.2 (.inr (obs_get hj0 hk)))
      · exact h.dis j q hj0 hq0 hjq k hk
/-- The header of a row. -/
theorem MO.hdr (h : MO X base e1 e2 w ao cap hs m) (i : Nat) (hi : i < hs.length) : w.cell? (adr ao i) = some (.slice hs[i].1 hs[i].2.1 hs[i].2.2) ∧ w.frozen? (adr ao i) = false := by
  obtain ⟨u, h1, h2, rfl⟩ := h.outer.cell HdR.one i hi
  exact ⟨h1, h2⟩
/-- A row, read. -/
theorem MO.rowS (h : MO X base e1 e2 w ao cap hs m) {i : Nat} (hi : i < hs.length) (hi' : i < m.length) : Sl QC 3 (_root_.Go.Rep.mk (cut (mz X ao hs) hs[i].1) w) hs[i].1 m[i] := (h.row i hi hi').sl QC.elem
theorem MO.rowX (h : MO X base e1 e2 w ao cap hs m) {i : Nat} (hi : i < hs.length) (hi' : i < m.length) : Sl QC 3 (_root_.Go.Rep.mk X w) hs[i].1 m[i] := (h.rowS hi hi').mono QC.mono (mk_sub fun k _ hk => cut_mk (mz_iff.2 (.inl hk)) (by
  cases hb : ob hs[i].1 k
  · rfl
  · have := (h.sep i hi k hb).1; rw [hk] at this; simp at this))
theorem MO.capLen (h : MO X base e1 e2 w ao cap hs m) : m.length ≤ cap := by rw [← h.len]; exact h.outer.lenCap
/-- The matrix, read. -/
theorem MO.mc (h : MO X base e1 e2 w ao cap hs m) : MC (_root_.Go.Rep.mk X w) (.slice ao m.length cap) m := by
  have hl := h.len
  refine ⟨ao, cap, rfl, h.capLen, fun hp => ?_, fun i hi => ?_⟩
  · have := h.outer.hd; rw [hl] at this; exact this hp
  · obtain ⟨h1, _⟩ := h.hdr i (by omega)
    have hr := h.rowX (i := i) (by omega) hi
    refine ⟨.slice hs[i].1 hs[i].2.1 hs[i].2.2, rfl, fun j hj => ?_, ?_⟩
    · have hj0 : j = 0 := by simp [Value.cells] at hj; omega
      subst hj0
      unfold _root_.Go.Rep.mk
      have hX : X (adr ao (i * 1 + 0)).block = false := by
        obtain ⟨b, off, rfl⟩ := h.outer.hd (by omega)
        exact h.outer.1 _ (by simp [ob, adr])
      rw [hX]
      simpa [Value.cells] using h1
    · rw [h.rlen i (by omega) hi]
      exact ⟨_, _, rfl, by have := (h.row i (by omega) hi).lenCap; exact this, hr⟩
/-- A matrix without rows yet. -/
theorem MO.start {n : Nat} (ho : OL HdR 1 X base e1 w ao cap (List.replicate n (none, 0, 0))) (e2 : TypeId) : MO X base e1 e2 w ao cap (List.replicate n (none, 0, 0)) (List.replicate n []) := by
  refine ⟨ho, by simp, fun i hi hi' => by simp, fun i hi hi' => ?_, fun i hi k hk => ?_, fun i j hi hj hij k hk => ?_⟩
  · simp only [List.getElem_replicate]; exact OL.nil _ _ _ _ _ _
  · simp [ob] at hk
  · simp [ob] at hk
end
end Go.Rep


namespace Go.Rep
open Go.RowKit Go.Lim
section
variable {P : Program} {α : Type} {R : Mem → Value → α → Prop} {X : Nat → Bool} {base : Nat} {e : TypeId} {w : World} {ao : Option Addr} {cap : Nat} {l : List α}
/-- The three cells of an element of an owned list. -/
theorem OL.cell3 (h : OL R 3 X base e w ao cap l) (i : Nat) (hi : i < l.length) {g o : Nat} (hg : adr ao (i * 3) = ⟨g, o, none⟩) :
    ∃ u v0 v1 v2, cellsL u = [v0, v1, v2] ∧ (w.cell? ⟨g, o, none⟩ = some v0 ∧ w.frozen? ⟨g, o, none⟩ = false) ∧ (w.cell? ⟨g, o + 1, none⟩ = some v1 ∧ w.frozen? ⟨g, o + 1, none⟩ = false) ∧ (w.cell? ⟨g, o + 2, none⟩ = some v2 ∧ w.frozen? ⟨g, o + 2, none⟩ = false) ∧ R (mk (un X ao) w) u l[i] := by
  obtain ⟨us, h1, h2, _, h3, h5⟩ := h.cells
  have hi' : i < us.length := by omega
  have hsz : us[i].cells.size = 3 := h2 _ (List.getElem_mem _)
  have hlen : (cellsL us[i]).length = 3 := by simp [cellsL, hsz]
  obtain ⟨v0, v1, v2, hv⟩ : ∃ v0 v1 v2, cellsL us[i] = [v0, v1, v2] := by
    match hc : cellsL us[i], hlen with
    | [a, b, c], _ => exact ⟨a, b, c, rfl⟩
  have ha : ∀ j, adr ao (i * 3 + j) = ⟨g, o + j, none⟩ := fun j => by rw [← adr_add, hg, Addr.add_lit]
  have key : ∀ j v, j < 3 → (cellsL us[i])[j]? = some v → w.cell? ⟨g, o + j, none⟩ = some v ∧ w.frozen? ⟨g, o + j, none⟩ = false := fun j v hj hjv => by
    have hget := flat_get us i j hi' h2 hj
    rw [hjv] at hget
    have := h3 _ _ hget
    rwa [ha] at this
  exact ⟨us[i], v0, v1, v2, hv, key 0 v0 (by omega) (by rw [hv]; rfl), key 1 v1 (by omega) (by rw [hv]; rfl), key 2 v2 (by omega) (by rw [hv]; rfl), h5 i hi' hi⟩
theorem run_store1 {P : Program} {w : World} {a : Addr} {u v : Value} (h1 : v.oneCell' = true) (hc : w.cell? a = some u) (hf : w.frozen? a = false) : (store a v).run P w = .ok () (w.setCell a v) := by
  rw [run_store P w a v _ h1, hc]; simp [hf]
/-- A store of a three-cell element, asl the walk writes it. -/
theorem OL.set3 {t : TypeId} (hT : TyI P t 3) (hR : Elem R 3) (h : OL R 3 X base e w ao cap l) (i : Nat) (hi : i < l.length) {g o : Nat} (hg : adr ao (i * 3) = ⟨g, o, none⟩) {v0 v1 v2 : Value} {x : α} (hu : R (mk (un X ao) w) (.agg #[v0, v1, v2]) x) :
    OL R 3 X base e (((w.setCell ⟨g, o, none⟩ v0).setCell ⟨g, o + 1, none⟩ v1).setCell ⟨g, o + 2, none⟩ v2) ao cap (l.set i x) ∧ ExtX (ob ao) w (((w.setCell ⟨g, o, none⟩ v0).setCell ⟨g, o + 1, none⟩ v1).setCell ⟨g, o + 2, none⟩ v2) := by
  obtain ⟨ti, ht, hts⟩ := hT
  obtain ⟨_, c0, c1, c2, _, ⟨h0, f0⟩, ⟨h1, f1⟩, ⟨h2, f2⟩, _⟩ := h.cell3 i hi hg
  obtain ⟨w', hr, h3, h4⟩ := h.run_store (P := P) ht hts hR i hi _ x hu
  have hone := hR.one _ _ _ hu
  rw [hg] at hr
  have o0 : v0.oneCell' = true := hone v0 (by simp [cellsL, Value.cells])
  have o1 : v1.oneCell' = true := hone v1 (by simp [cellsL, Value.cells])
  have o2 : v2.oneCell' = true := hone v2 (by simp [cellsL, Value.cells])
  have a1 : (w.setCell ⟨g, o, none⟩ v0).cell? ⟨g, o + 1, none⟩ = some c1 := by rw [World.cell?_setCell_other (h := by simp)]; exact h1
  have a2 : ((w.setCell ⟨g, o, none⟩ v0).setCell ⟨g, o + 1, none⟩ v1).cell? ⟨g, o + 2, none⟩ = some c2 := by rw [World.cell?_setCell_other (h := by simp), World.cell?_setCell_other (h := by simp)]; exact h2
  have b1 : (w.setCell ⟨g, o, none⟩ v0).frozen? ⟨g, o + 1, none⟩ = false := by rw [World.frozen?_setCell]; exact f1
  have b2 : ((w.setCell ⟨g, o, none⟩ v0).setCell ⟨g, o + 1, none⟩ v1).frozen? ⟨g, o + 2, none⟩ = false := by rw [World.frozen?_setCell, World.frozen?_setCell]; exact f2
  have hw : w' = ((w.setCell ⟨g, o, none⟩ v0).setCell ⟨g, o + 1, none⟩ v1).setCell ⟨g, o + 2, none⟩ v2 := by
    have s0 := run_store1 (P := P) o0 h0 f0
    have s1 := run_store1 (P := P) o1 a1 b1
    have s2 := run_store1 (P := P) o2 a2 b2
    simp [storeVar, sizeOf, typeInfo, ht, hts, Value.cells, storeCells, Addr.add_lit, s0, s1, s2] at hr
    exact hr.symm
  subst hw
  exact ⟨h3, h4⟩
end
section
variable {X : Nat → Bool} {base : Nat} {e1 e2 : TypeId} {w w' : World} {ao : Option Addr} {cap : Nat} {hs : List Hdr} {m : List (List Rat)}
/-- A reading from before the matrix was made. -/
theorem MO.old {α : Type} {R : Mem → Value → α → Prop} (hR : Mono R) {u : Value} {x : α} {X0 : Nat → Bool} {w0 : World} (h : MO X base e1 e2 w ao cap hs m) (hu : R (_root_.Go.Rep.mk X0 w0) u x) (hE : Ext w0 w) (hb : w0.heap.size ≤ base) (hX : ∀ k, k < w0.heap.size → X k = true → X0 k = true) : R (_root_.Go.Rep.mk (mz X ao hs) w) u x :=
  hR _ _ _ _ (mk_over hE (fun k _ hk => by simp [noY] at hk) fun k hk hz => by
    rcases mz_iff.1 hz with a | a
    · exact hX k hk a
    · have := (h.mb_block (mb_iff.2 a)).1; omega) hu
/-- What the whole mask leaves is read outside of X, too. -/
theorem MO.less {α : Type} {R : Mem → Value → α → Prop} (hR : Mono R) {u : Value} {x : α} (_h : MO X base e1 e2 w ao cap hs m) (hu : R (_root_.Go.Rep.mk (mz X ao hs) w) u x) : R (_root_.Go.Rep.mk X w) u x :=
  hR _ _ _ _ (mk_sub fun _ _ hk => mz_iff.2 (.inl hk)) hu
/-- From a world in which the matrix was not there. -/
theorem MO.ext_from {w0 : World} (h : MO X base e1 e2 w ao cap hs m) (hE : Ext w0 w) (hb : w0.heap.size ≤ base) (hE2 : ExtX (mb ao hs) w w') : Ext w0 w' :=
  hE.then_ hE2 fun i hi _ => by
    cases hk : mb ao hs i
    · rfl
    · have := (h.mb_block hk).1; omega
theorem ob_mb {ao : Option Addr} {hs : List Hdr} {k : Nat} (h : mb ao hs k = false) : ob ao k = false ∧ ∀ i (hi : i < hs.length), ob hs[i].1 k = false := by
  refine ⟨?_, fun i hi => ?_⟩
  · cases hb : ob ao k
    · rfl
    · rw [mb_iff.2 (.inl hb)] at h; simp at h
  · cases hb : ob hs[i].1 k
    · rfl
    · rw [mb_iff.2 (.inr (obs_get hi hb))] at h; simp at h
theorem ExtX.row {i : Nat} (hi : i < hs.length) (h : ExtX (ob hs[i].1) w w') : ExtX (mb ao hs) w w' := h.weaken fun _ _ hk => (ob_mb hk).2 i hi
theorem ExtX.outer (h : ExtX (ob ao) w w') : ExtX (mb ao hs) w w' := h.weaken fun _ _ hk => (ob_mb hk).1
/-- The rows' headers hidden alike. -/
theorem obs_congr {hs hs' : List Hdr} (h : ∀ k, obs hs k = obs hs' k) : mb ao hs = mb ao hs' ∧ mz X ao hs = mz X ao hs' := by
  constructor <;> (funext k; simp [mb, mz, h])
/-- A matrix that a call has made comes back. -/
def MOut (X : Nat → Bool) (e1 e2 : TypeId) (w : World) (m : List (List Rat)) (e : Ending) (w' : World) : Prop := Ext w w' ∧ ∃ ao cap hs, e = .returned (.slice ao m.length cap) ∧ MO X w.heap.size e1 e2 w' ao cap hs m
end
end Go.Rep


namespace Go.Proofs.YtjbhcniiioepgaaGreat
open Go.RowKit Go.Rep Go.Lim Go.Lin

theorem part_set {α : Type} (r i : Nat) (z : α) (x : α) (hi : i < r) : ((List.range r).map fun q => if q < i then z else x).set i z = (List.range r).map fun q => if q < i + 1 then z else x := by
  refine List.ext_getElem (by simp) fun q h1 h2 => ?_
  simp at h1
  rw [List.getElem_set]
  simp only [List.getElem_map, List.getElem_range]
  split
  · subst_vars; simp
  · by_cases a : q < i
    · simp [a, show q < i + 1 by omega]
    · simp [a, show ¬ q < i + 1 by omega]
theorem part_zero {α : Type} (r : Nat) (z x : α) : ((List.range r).map fun q => if q < 0 then z else x) = List.replicate r x := by
  refine List.ext_getElem (by simp) fun q h1 h2 => by simp
theorem part_full {α : Type} (r : Nat) (z x : α) : ((List.range r).map fun q => if q < r then z else x) = List.replicate r z := by
  refine List.ext_getElem (by simp) fun q h1 h2 => ?_
  simp at h1
  simp [h1]

set_option maxRecDepth 100000 in
theorem zero_any (X : Nat → Bool) (w : World) (r c : Nat) (hX : HX X w) (hr : r ≤ 1000) (hc : c ≤ 1000) : Calls Tryz.prog 101 #[.int .i64 (r : Int), .int .i64 (c : Int)] w (MOut X 33 31 w (List.replicate r (List.replicate c 0))) := by
  go_enter Tryz.func101, Tryz.ntmps101
  go_wp2_with ((with_reducible show wpList _ _ _ (⟨_, .makeSlice _ _ _, _, _, _, _⟩ :: _) _ _); refine st_make (R := HdR) slRats HdR.elem (none, 0, 0) (fun _ => rfl) X hX w.heap.size (Nat.le_refl _) r rfl rfl rfl (by omega) (by omega) ?_; intro ao w1 hO1 hE1)
  have hM1 := MO.start hO1 31
  have hh := hO1.hd
  simp only [List.length_replicate] at hh
  have h0 : List.replicate r ([] : List Rat) = (List.range r).map fun q => if q < 0 then List.replicate c 0 else [] := (part_zero r _ _).symm
  rw [h0] at hM1
  clear hO1 h0
  go_loopw [11] (fun k wr => ∃ (i : Nat) (hs : List Hdr), k = .int .i64 i ∧ i ≤ r ∧ Hid (∀ q (hq : q < hs.length), i ≤ q → hs[q].1 = none) ∧ MO X w.heap.size 33 31 wr ao r hs ((List.range r).map fun q => if q < i then List.replicate c 0 else []) ∧ Ext w wr) (fun k _ => r - (intOf k).toNat)
  case atStart => exact ⟨0, _, rfl, Nat.zero_le _, hid (fun q hq _ => by simp), hM1, hE1⟩
  case round =>
    obtain ⟨i, hs, rfl, hi, hnil, hM, hE⟩ := hrel
    have hXr : HX X wr := hX.ext hE
    have hXz := hM.hz hXr
    have hlen := hid hM.len
    have hml : Hid (((List.range r).map fun q => if q < i then List.replicate c (0 : Rat) else []).length = r) := hid (by simp)
    by_cases hlt : i < r
    · have hih : i < hs.length := by rw [hlen.out, hml.out]; exact hlt
      have hps := hid (part_set r i (List.replicate c (0 : Rat)) [] hlt)
      have hn := hnil.out i hih (Nat.le_refl _)
      go_wp2_with (first | (with_reducible refine up_ix1 slRats (by omega) (by assumption) ?_) | ((with_reducible show wpList _ _ _ (⟨_, .makeSlice _ _ _, _, _, _, _⟩ :: _) _ _); refine st_make (R := QC) slRat QC.elem (0 : Rat) (fun _ => QC.zero _) (mz X ao hs) hXz wr.heap.size (Nat.le_refl _) c rfl rfl rfl (by omega) (by omega) ?_; intro a1 w2 hO2 hE2) | ((with_reducible show wpList _ _ _ (⟨_, .store _ _ _, _, _, _, _⟩ :: _) _ _); refine st_store tyRats HdR.elem i rfl (by simp) (hM.outer.ext0 HdR.elem hE2) hih (.slice a1 c c) (a1, c, c) rfl rfl ?_; intro w3 hO3 hE3))
      have hM3 := hM.put (l := List.replicate c 0) hih hn hE2 (fun k hk => (hO2.block hk).1) (hO2.base_le hE.size) hXr hE3 (by simpa using hO3)
      rw [hps.out] at hM3
      have hE4 : Ext w w3 := (hE.trans hE2).then_ hE3 fun k hk _ => by
        cases hb : ob ao k
        · rfl
        · have := (hM.outer.block hb).1; omega
      have hnil2 : Hid (∀ q (hq : q < (hs.set i (a1, (List.replicate c (0 : Rat)).length, c)).length), i + 1 ≤ q → (hs.set i (a1, (List.replicate c (0 : Rat)).length, c))[q].1 = none) := hid fun q hq hiq => by
        rw [List.getElem_set_ne (by omega)]; exact hnil.out q (by simpa using hq) (by omega)
      go_roundw
      case rel => exact ⟨i + 1, _, by go_num, by omega, hnil2, hM3, hE4⟩
      case measure => simp [intOf]; omega
    · have hir : i = r := by omega
      subst hir
      rw [part_full] at hM
      go_wp2_with fail
      go_ret
      exact ⟨hE, ao, i, hs, by simp, hM⟩
end Go.Proofs.YtjbhcniiioepgaaGreat


namespace Go.Lin
/-- The first i of a, the others of b. -/
def mix {α : Type} (a b : List α) (i : Nat) : List α := a.take i ++ b.drop i
theorem mix_len {α : Type} {a b : List α} (h : a.length = b.length) (i : Nat) : (mix a b i).length = a.length := by simp [mix]; omega
theorem mix_zero {α : Type} (a b : List α) : mix a b 0 = b := by simp [mix]
theorem mix_full {α : Type} {a b : List α} {i : Nat} (h1 : a.length ≤ i) (h2 : b.length ≤ i) : mix a b i = a := by simp [mix, List.take_of_length_le h1, List.drop_of_length_le h2]
theorem mix_getElem {α : Type} {a b : List α} (h : a.length = b.length) (i q : Nat) (hq : q < (mix a b i).length) : (mix a b i)[q] = if q < i then a[q]'(by rw [mix_len h] at hq; exact hq) else b[q]'(by rw [mix_len h] at hq; omega) := by
  have hq' := hq
  rw [mix_len h] at hq'
  have hq2 : q < (a.take i ++ b.drop i).length := hq
  show (a.take i ++ b.drop i)[q]'hq2 = _
  rw [List.getElem_append]
  by_cases a1 : q < i
  · rw [dif_pos (by simp; omega), if_pos a1, List.getElem_take]
  · rw [dif_neg (by simp; omega), if_neg a1, List.getElem_drop]
    congr 1
    simp; omega
theorem mix_set {α : Type} {a b : List α} (h : a.length = b.length) {i : Nat} (hi : i < a.length) : (mix a b i).set i a[i] = mix a b (i + 1) := by
  refine List.ext_getElem (by simp [mix_len h]) fun q h1 h2 => ?_
  rw [List.getElem_set]
  split
  · subst_vars; rw [mix_getElem h, if_pos (by omega)]
  · rw [mix_getElem h, mix_getElem h]
    by_cases a1 : q < i
    · rw [if_pos a1, if_pos (by omega)]
    · rw [if_neg a1, if_neg (by omega)]
theorem mix_at {α : Type} {a b : List α} (h : a.length = b.length) {i : Nat} (hi : i < b.length) : (mix a b i).set i b[i] = mix a b i := by
  refine List.ext_getElem (by simp) fun q h1 h2 => ?_
  rw [List.getElem_set]
  split
  · subst_vars; rw [mix_getElem h, if_neg (by omega)]
  · rfl
end Go.Lin
namespace Go.Proofs.YtjbhcniiioepgaaGreat
open Go.RowKit Go.Rep Go.Lim Go.Lin

set_option maxRecDepth 100000 in
set_option maxHeartbeats 800000 in
theorem copied_any (X : Nat → Bool) (w : World) (u : Value) (m : List (List Rat)) (n c : Nat) (hX : HX X w) (hu : MV (mk X w) u m) (hsh : Shp n c m) (hc : colsL m = c) (hn : n ≤ 1000) (hcc : c ≤ 1000) : Calls Tryz.prog 84 #[u] w (MOut X 33 31 w m) := by
  have hcol := columns_any X w u m hu
  obtain ⟨ao0, ca, rfl, hca, hsa⟩ := hu
  have hha := hsa.hd
  rw [hc] at hcol
  have hml := hid hsh.1
  have hrl := hid hsh.2
  rw [hml.out] at hca hha hcol ⊢
  obtain ⟨A, hA⟩ : ∃ A, List.replicate n (List.replicate c (0 : Rat)) = A := ⟨_, rfl⟩
  have hAl : Hid (A.length = n) := hid (by rw [← hA]; simp)
  have hAi : Hid (∀ i (hi : i < A.length), A[i] = List.replicate c (0 : Rat)) := hid fun i hi => by subst hA; simp
  have hmA : Hid (m.length = A.length) := hid (by rw [hml.out, hAl.out])
  have hz0 := zero_any X w n c hX hn hcc
  rw [hA] at hz0
  clear hA hsh hc
  go_enter Tryz.func84, Tryz.ntmps84
  go_wp2_with fail
  refine hcol.mono ?_
  rintro e w1 ⟨rfl, rfl⟩
  go_wp2_with fail
  refine hz0.mono ?_
  rintro e w2 ⟨hE2, ao, cap, hs, rfl, hM2⟩
  rw [hAl.out]
  have hlen := hid (hM2.len.trans hAl.out)
  have hcap : n ≤ cap := by have := hM2.capLen; rw [hAl.out] at this; exact this
  have hhO : Hd ao n := by have := hM2.outer.hd; rw [hlen.out] at this; exact this
  have hrl2 : Hid (∀ i (hi : i < hs.length), hs[i].2.1 = c) := hid fun i hi => by
    have h1 : i < A.length := by rw [hAl.out, ← hlen.out]; exact hi
    rw [hM2.rlen i hi h1, hAi.out i h1]; simp
  clear hcol hz0
  go_wp2_with fail
  go_loopw [15] (fun k wr => ∃ (i : Nat), k = .int .i64 i ∧ i ≤ n ∧ MO X w1.heap.size 33 31 wr ao cap hs (mix m A i) ∧ Ext w1 wr) (fun k _ => n - (intOf k).toNat)
  case atStart => exact ⟨0, rfl, Nat.zero_le _, by rw [mix_zero]; exact hM2, hE2⟩
  case round =>
    obtain ⟨i, rfl, hi, hM, hE⟩ := hrel
    by_cases hlt : i < n
    · have him : i < m.length := by rw [hml.out]; exact hlt
      have hiA : i < A.length := by rw [hAl.out]; exact hlt
      have hih : i < hs.length := by rw [hlen.out]; exact hlt
      obtain ⟨a1, c1, hX1, hc1, hcl1, hq1⟩ := hsa.row i him
      have k00 := hc1.out noY wr hE rfl
      obtain ⟨x, hx⟩ : ∃ x, m[i] = x := ⟨_, rfl⟩
      obtain ⟨z, hz⟩ : ∃ z, A[i] = z := ⟨_, rfl⟩
      rw [hx] at k00 hcl1 hq1
      have hxl : Hid (x.length = c) := hid (by rw [← hx]; exact hrl.out _ (List.getElem_mem _))
      have hzl : Hid (z.length = c) := hid (by rw [← hz, hAi.out i hiA]; simp)
      have hxz : Hid (x.length = z.length) := hid (by rw [hxl.out, hzl.out])
      rw [hxl.out] at k00 hcl1
      have hst : Hid ((mix m A i).set i z = mix m A i) := hid (by rw [← hz]; exact mix_at hmA.out hiA)
      have hfin : Hid ((mix m A i).set i x = mix m A (i + 1)) := hid (by rw [← hx]; exact mix_set hmA.out him)
      have hmi : Hid (i < (mix m A i).length) := hid (by rw [mix_len hmA.out]; exact him)
      have hh1 : Hd a1 c := by have := hq1.hd; rw [hxl.out] at this; exact this
      have hrow : RV (mk X w1) (.slice a1 c c1) x := ⟨a1, c1, by rw [hxl.out], by rw [hxl.out]; exact hcl1, hq1⟩
      obtain ⟨a, na, cr, hhd⟩ : ∃ a na cr, hs[i] = (a, na, cr) := ⟨_, _, _, rfl⟩
      have hna : na = c := by have := hrl2.out i hih; rw [hhd] at this; exact this
      subst hna
      have hhd' := hid hhd
      rw [← hst.out] at hM
      have hM' : MO X w1.heap.size 33 31 wr ao cap hs ((mix m A i).set i (mix x z 0)) := by rw [mix_zero]; exact hM
      clear hx hz hc1 hq1 hhd hM
      obtain ⟨wo, hwo⟩ : ∃ wo, wo = wr := ⟨_, rfl⟩
      subst hwo
      go_wp2_with (with_reducible refine up_ix1 slRats (by omega) (by assumption) ?_)
      go_loopw [22] (fun k wr => ∃ (j : Nat), k = .int .i64 j ∧ j ≤ na ∧ MO X w1.heap.size 33 31 wr ao cap hs ((mix m A i).set i (mix x z j)) ∧ Ext w1 wr) (fun k _ => na - (intOf k).toNat)
      case atStart => exact ⟨0, rfl, Nat.zero_le _, hM', hE⟩
      case round =>
        obtain ⟨j, rfl, hj, hM, hE⟩ := hrel
        by_cases hlj : j < na
        · have hjx : j < x.length := by rw [hxl.out]; exact hlj
          have hXr : HX X wr := hX.ext hE
          have hXz := hM.hz hXr
          have hsr : Sl QV 3 (mk (mz X ao hs) wr) a1 x := by
            obtain ⟨_, _, heq, _, h3⟩ := hM.old RV.mono hrow hE (Nat.le_refl _) (fun _ _ h => h)
            simp only [Value.slice.injEq] at heq
            obtain ⟨rfl, _, rfl⟩ := heq
            exact h3
          have hmx : Hid (i < ((mix m A i).set i (mix x z j)).length) := hid (by rw [List.length_set]; exact hmi.out)
          have hjl : Hid ((mix x z j).length = na) := hid (by rw [mix_len hxz.out, hxl.out])
          have hOr := hM.row i hih hmx.out
          rw [List.getElem_set_self] at hOr
          simp only [hhd'.out] at hOr
          have hda : Hd a na := by have := hOr.hd; rw [hjl.out] at this; exact this
          have hun : Hid (un (cut (mz X ao hs) a) a = mz X ao hs) := hid (un_cut fun k hk => by have := hM.mz_sub hih k; rw [hhd'.out] at this; exact this hk)
          have hbsep : Hid (ob a (adr ao i).block = false) := hid (by
            cases hb : ob a (adr ao i).block
            · rfl
            · have h1 := (hM.sep i hih (adr ao i).block (by rw [hhd'.out]; exact hb)).2
              obtain ⟨b0, o0, rfl⟩ := hhO (by omega)
              simp [ob, adr] at h1)
          have hbnew : Hid (ob a wr.heap.size = false) := hid (hOr.ob_ge (Nat.le_refl _))
          obtain ⟨g, o, hg⟩ : ∃ g o, adr a (j * 3) = ⟨g, o, none⟩ := ⟨_, _, rfl⟩
          have i2 : ∀ W, (Instr.indexAt 23 (.slice ao n cap) (.int .i64 (i : Int))).run Tryz.prog W = .ok (.pointer (some (adr ao i))) W := run_ix1 slRats ao n cap .i64 i hhO (by omega) rfl
          have i3 : ∀ W, (Instr.indexAt 33 (.slice a na cr) (.int .i64 (j : Int))).run Tryz.prog W = .ok (.pointer (some ⟨g, o, none⟩)) W := by rw [← hg]; exact run_indexAt_adr slRat a na cr .i64 j hda (by omega)
          have bx := Bx.new wr #[.bool false, .slice none 0 0, .slice none 0 0] 31
          obtain ⟨Z, hZ⟩ : ∃ Z, mz X ao hs = Z := ⟨_, rfl⟩
          have hZ' := hid hZ
          rw [hZ] at hXz hsr hOr hun
          have hjs : Hid ((mix x z j).set j x[j] = mix x z (j + 1)) := hid (mix_set hxz.out hjx)
          have hadd0 : Hid (x[j] + 0 = x[j]) := hid (Rat.add_zero _)
          have hhdr := (hM.hdr i hih).1
          rw [hhd'.out] at hhdr
          dsimp only at hhdr
          clear hZ k00
          go_wp2_with (first | (with_reducible refine up_ixn slRat (by omega) (by assumption) ?_) | ((with_reducible show wpList _ _ _ (⟨_, .load _ _, _, _, _, _⟩ :: _) _ _); refine st_loadElem stRat j hsr hjx rfl (by simp) QV.agg ?_; intro u5 hu5; obtain ⟨s5, a5, n5, c5, d5, k5, e5, rfl⟩ := hu5.shape) | ((with_reducible show wpList _ _ _ (⟨_, .store _ _ _, _, _, _, _⟩ :: _) _ _); refine st_storeBox stRat rfl rfl bx rfl rfl (one3 _ _ _ _ _ _ _) ?_; intro w5 r1 r2))
          have hE5 : Ext wr w5 := ExtX.box ((ExtX.refl wr).alloc _) r2 (Nat.le_refl _)
          have hEd : Ext w5 w5.drew := (ExtX.refl w5).drew
          have hM5 := hM.ext0 hE5
          have hO5 := hOr.ext0 QC.elem hE5
          have hx5 : QV (mk Z w5.drew) (.agg #[.bool s5, .slice a5 n5 c5, .slice d5 k5 e5]) x[j] := mkx QV.mono hu5 (hE5.trans hEd)
          have h00 : QV (mk Z w5.drew) (.agg #[.bool false, .slice none 0 0, .slice none 0 0]) 0 := (QC.zero _).qv (by rw [hq_zero]; decide)
          have hXd : HX Z w5.drew := hXz.ext (hE5.trans hEd)
          have hS : Hid (∀ Y W', ExtX Y w5.drew W' → Y (adr ao i).block = false → Y wr.heap.size = false → W'.cell? (adr ao i) = some (.slice a na cr) ∧ W'.cell? ⟨wr.heap.size, 0, none⟩ = some (.bool s5) ∧ W'.cell? ⟨wr.heap.size, 1, none⟩ = some (.slice a5 n5 c5) ∧ W'.cell? ⟨wr.heap.size, 2, none⟩ = some (.slice d5 k5 e5)) := hid fun Y W' h hy1 hy2 => by
            have b1 := (r1.ext0 hEd).ext h hy2
            exact ⟨h.cellY ((hE5.trans hEd).cell hhdr) hy1, b1.cell 0 rfl, b1.cell 1 rfl, b1.cell 2 rfl⟩
          obtain ⟨k20, k30, k31, k32⟩ := hS.out noY w5.drew (ExtX.refl _) rfl rfl
          obtain ⟨bw, hbw⟩ : ∃ bw, wr.heap.size = bw := ⟨_, rfl⟩
          rw [hbw] at hS k30 k31 k32 hbnew ⊢
          clear hhdr r1 bx
          go_wp2_with fail
          go_region_held3 (fun w' => w'.cell? (adr ao i) = some (.slice a na cr) ∧ w'.cell? ⟨bw, 0, none⟩ = some (.bool s5) ∧ w'.cell? ⟨bw, 1, none⟩ = some (.slice a5 n5 c5) ∧ w'.cell? ⟨bw, 2, none⟩ = some (.slice d5 k5 e5))
            (first | exact hS.out noY _ t1 rfl rfl | exact hS.out (ob a) _ ((ExtX.of t1).trans hset.2) hbsep.out hbnew.out | go_keep)
            ((go_at_call 110; (with_reducible refine (qadd Z w5.drew _ _ _ 0 hXd hx5 h00).mono ?_); rintro ee w6 ⟨t1, u6, rfl, hu6⟩; obtain ⟨s6, a6, n6, c6, d6, k6, e6, rfl⟩ := hu6.shape; rw [hadd0.out] at hu6; have hO6 := hO5.ext0 QC.elem (hEd.trans t1); obtain ⟨_, v0, v1, v2, _, ⟨g0, f0⟩, ⟨g1, f1⟩, ⟨g2, f2⟩, _⟩ := hO6.cell3 j (by rw [hjl.out]; exact hlj) hg; have hset := hO6.set3 tyRat QC.elem j (by rw [hjl.out]; exact hlj) hg (v0 := .bool s6) (v1 := .slice a6 n6 c6) (v2 := .slice d6 k6 e6) (x := x[j]) (by rw [hun.out]; exact hu6)))
          obtain ⟨q1, q2⟩ := hset
          rw [hjs.out] at q1
          have q2' : ExtX (ob hs[i].1) w6 (((w6.setCell ⟨g, o, none⟩ (.bool s6)).setCell ⟨g, o + 1, none⟩ (.slice a6 n6 c6)).setCell ⟨g, o + 2, none⟩ (.slice d6 k6 e6)) := by rw [hhd'.out]; exact q2
          have hM6 := hM5.ext0 (hEd.trans t1)
          have hM7 := hM6.upd hih (l := mix x z (j + 1)) q2' (fun hi' => by rw [List.getElem_set_self, mix_len hxz.out, mix_len hxz.out]) (by rw [hZ'.out, hhd'.out]; exact q1)
          rw [List.set_set] at hM7
          have hE7 := hM6.ext_from ((hE.trans hE5).trans (hEd.trans t1)) (Nat.le_refl _) (ExtX.row hih q2')
          clear k20 k30 k31 k32 g0 g1 g2 f0 f1 f2 i2 i3
          go_wp2_with fail
          go_roundw
          case rel => exact ⟨j + 1, by go_num, by omega, hM7, hE7⟩
          case measure => simp [intOf]; omega
        · have hjn : j = na := by omega
          subst hjn
          rw [mix_full (a := x) (b := z) (by rw [hxl.out]; exact Nat.le_refl _) (by rw [hzl.out]; exact Nat.le_refl _), hfin.out] at hM
          go_wp2_with fail
          go_roundw
          case rel => exact ⟨i + 1, by go_num, by omega, hM, hE⟩
          case measure => simp [intOf]; omega
    · have hin : i = n := by omega
      subst hin
      rw [mix_full (by rw [hml.out]; exact Nat.le_refl _) (by rw [hAl.out]; exact Nat.le_refl _)] at hM
      go_wp2_with fail
      go_ret
      exact ⟨hE, ao, cap, hs, by rw [hml.out]; rfl, hM⟩
end Go.Proofs.YtjbhcniiioepgaaGreat


namespace Go.Rep
open Go.RowKit Go.Lim
section
variable {P : Program} {ops : Array Oper} {Q : Exit → Act → World → Prop} {rest : List Oper} {a : Act} {w : World}
variable {α : Type} {R : Mem → Value → α → Prop} {sz : Nat} {X : Nat → Bool} {base : Nat} {e : TypeId} {ao : Option Addr} {cap : Nat} {l : List α}
variable {d : Option Tmp} {ty : TypeId} {ps : String} {af : Array Edge}
theorem st_loadOL {t : TypeId} {x : Operand} {k : Nat} (hT : StructT P t sz) (i : Nat) (h : OL R sz X base e w ao cap l) (hi : i < l.length) (hx : a.eval x = .pointer (some (adr ao k))) (hk : k = i * sz) (hag : ∀ h u y, R h u y → ∃ cs, u = .agg cs)
    (K : ∀ u, R (mk (un X ao) w) u l[i] → wpList P ops Q rest (a.put d u) w) :
    wpList P ops Q (⟨d, .load t x, ty, ps, af, none⟩ :: rest) a w := by
  refine wpList_plain rfl fun K' hK' => ?_
  subst hk
  obtain ⟨fs, ti, h1, h2, h3⟩ := hT
  obtain ⟨us, p1, p2, _, p3, p5⟩ := h.cells
  have hi' : i < us.length := by omega
  have h6 := p5 i hi' hi
  obtain ⟨cs, hcs⟩ := hag _ _ _ h6
  have hsz : cs.toList.length = sz := by have := p2 us[i] (List.getElem_mem _); rw [hcs] at this; simpa [Value.cells] using this
  have hl := run_loadCells_list (P := P) w (adr ao (i * sz)) cs.toList (fun j v hj => by
    rw [adr_add]
    have hj1 : j < sz := by rw [← hsz]; exact (List.getElem?_eq_some_iff.1 hj).1
    have hget := flat_get us i j hi' p2 hj1
    rw [hcs] at hget
    have hj2 : (cellsL (.agg cs))[j]? = some v := by simpa [cellsL, Value.cells] using hj
    rw [hj2] at hget
    exact (p3 _ _ hget).1)
  rw [hsz] at hl
  unfold Oper.wp
  simp [execOp, hx, Instr.loadAt, Instr.sureAddr, loadVar, isAgg, run_underlying h1, sizeOf, typeInfo, h2, h3, hl, Result.andThen]
  rw [hcs] at h6
  exact hK' _ _ (K _ h6)
end
/-- The struct at an element's address, now and in all worlds behind that leave the list's block. -/
theorem OL.rat {R : Mem → Value → Rat → Prop} (hR : Shaped R) {X : Nat → Bool} {base : Nat} {e : TypeId} {w : World} {ao : Option Addr} {cap : Nat} {l : List Rat} (h : OL R 3 X base e w ao cap l) (i : Nat) (hi : i < l.length) :
    ∃ g o sg a n c d k e, adr ao (i * 3) = ⟨g, o, none⟩ ∧ ob ao g = true ∧ Hid (∀ Y W', ExtX Y w W' → Y g = false → W'.cell? ⟨g, o, none⟩ = some (.bool sg) ∧ W'.cell? ⟨g, o + 1, none⟩ = some (.slice a n c) ∧ W'.cell? ⟨g, o + 2, none⟩ = some (.slice d k e)) ∧ R (mk (un X ao) w) (.agg #[.bool sg, .slice a n c, .slice d k e]) l[i] := by
  obtain ⟨b0, o0, hb0⟩ := h.hd (by omega)
  have hg : adr ao (i * 3) = ⟨b0, o0 + i * 3, none⟩ := by rw [hb0]; rfl
  obtain ⟨u, v0, v1, v2, hu, ⟨h0, _⟩, ⟨h1, _⟩, ⟨h2, _⟩, h3⟩ := h.cell3 i hi hg
  obtain ⟨sg, a, n, c, d, k, e, rfl⟩ := hR _ _ _ h3
  simp only [cellsL, Value.cells, List.cons.injEq, and_true] at hu
  obtain ⟨rfl, rfl, rfl⟩ := hu
  exact ⟨_, _, sg, a, n, c, d, k, e, hg, by rw [hb0]; simp [ob], hid fun Y W' hE hY => ⟨hE.cellY h0 hY, hE.cellY h1 hY, hE.cellY h2 hY⟩, h3⟩
end Go.Rep


namespace Go.Lin
open Go.Lim
/-- All numbers that the program's elimination meets are of few digits. -/
def Tame (m : Mat) (c : Nat) : Prop := ∃ B, 7 * B ≤ 68719476736 ∧ (∀ j, j ≤ c → HB B (eN m j).1) ∧ ∀ t, t ≤ (eN m c).2.1.length → HB B (dN (eN m c).1 (eN m c).2.1 t)
theorem pow_le (a : Nat) {i n : Nat} (ha : 0 < a) (h : i ≤ n) : a ^ i ≤ a ^ n := Nat.pow_le_pow_right ha h
theorem tame_of {n c B : Nat} {m : Mat} (hs : Shp n c m) (h : HB B m) (hB : 7 * (35 ^ n * B) ≤ 68719476736) : Tame m c := by
  have hle : ∀ j, (eN m j).2.1.length ≤ n := fun j => (eN_ok hs j).ech.le
  refine ⟨35 ^ n * B, hB, fun j _ => (h.eN hs j).mono (Nat.mul_le_mul_right _ ?_), fun t ht => (((h.eN hs c).dN (eN_ok hs c).shp (eN_ok hs c).ech t ht)).mono ?_⟩
  · exact Nat.le_trans (pow_le 5 (by omega) (hle j)) (Nat.pow_le_pow_left (by omega) n)
  · rw [← Nat.mul_assoc]
    refine Nat.mul_le_mul_right _ ?_
    rw [show (35 : Nat) = 7 * 5 from rfl, Nat.mul_pow]
    exact Nat.mul_le_mul (pow_le 7 (by omega) (Nat.le_trans ht (hle c))) (pow_le 5 (by omega) (hle c))
/-- .. in its first phase alone. -/
def TameE (m : Mat) (c : Nat) : Prop := ∃ B, 7 * B ≤ 68719476736 ∧ ∀ j, j ≤ c → HB B (eN m j).1
theorem Tame.e {m : Mat} {c : Nat} (h : Tame m c) : TameE m c := let ⟨B, h1, h2, _⟩ := h; ⟨B, h1, h2⟩
theorem hb_redP {n c B : Nat} {m : Mat} (h : HB B m) (hs : Shp n c m) : HB (35 ^ n * B) (redP m c).1 := by
  have hle : (eN m c).2.1.length ≤ n := (eN_ok hs c).ech.le
  refine ((h.eN hs c).dN (eN_ok hs c).shp (eN_ok hs c).ech _ (Nat.le_refl _)).mono ?_
  rw [← Nat.mul_assoc]
  refine Nat.mul_le_mul_right _ ?_
  rw [show (35 : Nat) = 7 * 5 from rfl, Nat.mul_pow]
  exact Nat.mul_le_mul (pow_le 7 (by omega) hle) (pow_le 5 (by omega) hle)

end Go.Lin


namespace Go.Lin
open Go.Lim
end Go.Lin


namespace Go.Proofs.YtjbhcniiioepgaaGreat
open Go.RowKit Go.Rep Go.Lim Go.Lin

/-- A matrix and no error. -/
def M2Out (X : Nat → Bool) (w : World) (m : List (List Rat)) (e : Ending) (w' : World) : Prop := Ext w w' ∧ ∃ u, e = .returned (.tuple #[u, .int .i64 0]) ∧ MC (mk X w') u m

end Go.Proofs.YtjbhcniiioepgaaGreat


namespace Go.Proofs.YtjbhcniiioepgaaGreat
open Go.RowKit Go.Rep Go.Lim Go.Lin

/-- One row was eliminated; nothing else was turned. -/
def EOut (Z : Nat → Bool) (base : Nat) (e : TypeId) (w : World) (a : Option Addr) (cap : Nat) (l : List Rat) (ee : Ending) (w' : World) : Prop := ee = .returned (.tuple #[]) ∧ ExtX (ob a) w w' ∧ OL QC 3 (cut Z a) base e w' a cap l

set_option maxRecDepth 100000 in
set_option maxHeartbeats 1600000 in
theorem eliminate_any (Z : Nat → Bool) (base : Nat) (w : World) (a1 a2 : Option Addr) (c1 c2 n col : Nat) (row piv : List Rat) (hX : HX Z w) (h1 : OL QC 3 (cut Z a1) base 31 w a1 c1 row) (h2 : OL QC 3 (cut Z a2) base 31 w a2 c2 piv)
    (hz1 : ∀ k, ob a1 k = true → Z k = true) (hz2 : ∀ k, ob a2 k = true → Z k = true) (hdis : ∀ k, ob a1 k = true → ob a2 k = false) (hl1 : row.length = n) (hl2 : piv.length = n) (hn : n ≤ 1000) (hcol : col < n)
    (hb1 : BR 68719476736 row) (hb2 : BR 68719476736 piv) (hb3 : hq (row.getD col 0 / piv.getD col 0) ≤ 68719476736) (hb4 : ∀ x ∈ piv, hq (row.getD col 0 / piv.getD col 0 * x) ≤ 68719476736) :
    Calls Tryz.prog 136 #[.slice a1 n c1, .slice a2 n c2, .int .i64 (col : Int)] w (EOut Z base 31 w a1 c1 (elimL row piv col)) := by
  have hu1 := hid (un_cut hz1)
  have hu2 := hid (un_cut hz2)
  have hdis2 : ∀ k, ob a2 k = true → ob a1 k = false := fun k hk => by
    cases hb : ob a1 k
    · rfl
    · rw [hdis k hb] at hk; simp at hk
  have hd1 : Hd a1 n := by have := h1.hd; rw [hl1] at this; exact this
  have hd2 : Hd a2 n := by have := h2.hd; rw [hl2] at this; exact this
  have hc1r : col < row.length := by omega
  have hc2r : col < piv.length := by omega
  have g1 : Hid (row.getD col 0 = row[col]) := hid (by simp [List.getD_eq_getElem?_getD, hc1r])
  have g2 : Hid (piv.getD col 0 = piv[col]) := hid (by simp [List.getD_eq_getElem?_getD, hc2r])
  obtain ⟨E, hE⟩ : ∃ E, elimL row piv col = E := ⟨_, rfl⟩
  have hEl : Hid (E.length = n) := hid (by rw [← hE, elimL_len _ _ _ (by omega)]; exact hl2)
  have hEi : Hid (∀ j (hj : j < row.length) (hj2 : j < piv.length) (hj3 : j < E.length), E[j] = row[j] - (row.getD col 0 / piv.getD col 0) * piv[j]) := hid fun j hj hj2 hj3 => by subst hE; simp [elimL]
  have hE0 : Hid (row.getD col 0 / piv.getD col 0 = 0 → E = row) := hid fun h => by rw [← hE]; exact elimL_zero _ _ _ (by omega) h
  have hrE : Hid (E.length = row.length) := hid (by rw [hEl.out, hl1])
  have hl1' := hid hl1
  have hl2' := hid hl2
  have hb1' := hid hb1
  have hb2' := hid hb2
  obtain ⟨f, hf⟩ : ∃ f, row.getD col 0 / piv.getD col 0 = f := ⟨_, rfl⟩
  rw [hf] at hb3 hE0 hEi hb4
  have hb3' := hid hb3
  have hb4' := hid hb4
  have hff : Hid (row[col] / piv[col] = f) := hid (by rw [← g1.out, ← g2.out]; exact hf)
  rw [hE]
  obtain ⟨gg1, oo1, s1, p1, n1, q1, d1, k1, e1, hg1, hog1, hcc1, hr1⟩ := h1.rat QC.shaped col hc1r
  obtain ⟨gg2, oo2, s2, p2, n2, q2, d2, k2, e2, hg2, hog2, hcc2, hr2⟩ := h2.rat QC.shaped col hc2r
  rw [hu1.out] at hr1
  rw [hu2.out] at hr2
  have i1 : ∀ W, (Instr.indexAt 33 (.slice a1 n c1) (.int .i64 (col : Int))).run Tryz.prog W = .ok (.pointer (some ⟨gg1, oo1, none⟩)) W := by rw [← hg1]; exact run_indexAt_adr slRat a1 n c1 .i64 col hd1 hcol
  have i2 : ∀ W, (Instr.indexAt 33 (.slice a2 n c2) (.int .i64 (col : Int))).run Tryz.prog W = .ok (.pointer (some ⟨gg2, oo2, none⟩)) W := by rw [← hg2]; exact run_indexAt_adr slRat a2 n c2 .i64 col hd2 hcol
  have hEd : Ext w w.drew := (ExtX.refl w).drew
  have hS : Hid (∀ Y W', ExtX Y w.drew W' → Y gg1 = false → Y gg2 = false → W'.cell? ⟨gg1, oo1, none⟩ = some (.bool s1) ∧ W'.cell? ⟨gg1, oo1 + 1, none⟩ = some (.slice p1 n1 q1) ∧ W'.cell? ⟨gg1, oo1 + 2, none⟩ = some (.slice d1 k1 e1) ∧ W'.cell? ⟨gg2, oo2, none⟩ = some (.bool s2) ∧ W'.cell? ⟨gg2, oo2 + 1, none⟩ = some (.slice p2 n2 q2) ∧ W'.cell? ⟨gg2, oo2 + 2, none⟩ = some (.slice d2 k2 e2)) := hid fun Y W' h hy1 hy2 => by
    have z1 := hcc1.out Y W' ((ExtX.of hEd).trans h) hy1
    have z2 := hcc2.out Y W' ((ExtX.of hEd).trans h) hy2
    exact ⟨z1.1, z1.2.1, z1.2.2, z2.1, z2.2.1, z2.2.2⟩
  obtain ⟨k00, k01, k02, k10, k11, k12⟩ := hS.out noY w.drew (ExtX.refl _) rfl rfl
  have hlt1 : gg1 < w.heap.size := cell_lt k00
  have hlt2 : gg2 < w.heap.size := cell_lt k10
  have hXd : HX Z w.drew := hX
  have hx1 : QV (mk Z w.drew) (.agg #[.bool s1, .slice p1 n1 q1, .slice d1 k1 e1]) row[col] := hr1.qv (hb1'.out _ (List.getElem_mem _))
  have hx2 : QV (mk Z w.drew) (.agg #[.bool s2, .slice p2 n2 q2, .slice d2 k2 e2]) piv[col] := hr2.qv (hb2'.out _ (List.getElem_mem _))
  obtain ⟨ec, hec⟩ : ∃ ec, e5 (decide (piv[col] = 0)) = ec := ⟨_, rfl⟩
  have qd := qdiv Z w.drew _ _ _ _ hXd hx1 hx2
  rw [hec, hff.out] at qd
  have hEA : Ext w.drew (w.alloc (.cells #[.bool false, .slice none 0 0, .slice none 0 0] 31)).drew := ⟨rfl, rfl, rfl, ((ExtX.refl (Y := noY) w).alloc _).size, ((ExtX.refl (Y := noY) w).alloc _).block⟩
  have bA : Bx (w.alloc (.cells #[.bool false, .slice none 0 0, .slice none 0 0] 31)).drew w.heap.size #[.bool false, .slice none 0 0, .slice none 0 0] 31 := Bx.new w _ _
  have hEA2 : Ext w (w.alloc (.cells #[.bool false, .slice none 0 0, .slice none 0 0] 31)).drew := hEd.trans hEA
  have hXA : HX (un Z (some ⟨w.heap.size, 0, none⟩)) (w.alloc (.cells #[.bool false, .slice none 0 0, .slice none 0 0] 31)).drew := fun k hk => by
    have h9 : (w.alloc (.cells #[.bool false, .slice none 0 0, .slice none 0 0] 31)).drew.heap.size = w.heap.size + 1 := by show (w.alloc _).heap.size = _; simp
    rw [h9]
    by_cases hz : Z k = true
    · have := hX k hz; omega
    · have : w.heap.size = k := by simpa [un, hz, ob] using hk
      omega
  have hnewb : ∀ j, j < w.heap.size → ob (some ⟨w.heap.size, 0, none⟩) j = false := fun j hj => ob_other (by omega)
  have qdA := qdiv (un Z (some ⟨w.heap.size, 0, none⟩)) (w.alloc (.cells #[.bool false, .slice none 0 0, .slice none 0 0] 31)).drew _ _ _ _ hXA (old_un (w := w) QV.mono hx1 hEA2 hnewb) (old_un (w := w) QV.mono hx2 hEA2 hnewb)
  rw [hec, hff.out] at qdA
  clear hg1 hg2 hcc1 hcc2 hr1 hr2 hf hE hl1 hl2 hb1 hb2 hb3 hb4 hec
  go_enter Tryz.func136, Tryz.ntmps136
  go_upto_region 0 with (fail)
  go_cut [6, 7] from 10 to 21 (fun b6 _ wx => ∃ bf s a n' c d k e, b6 = .pointer (some ⟨bf, 0, none⟩) ∧ Bx wx bf #[.bool s, .slice a n' c, .slice d k e] 31 ∧ w.heap.size ≤ bf ∧ QC (mk Z wx) (.agg #[.bool s, .slice a n' c, .slice d k e]) f ∧ Ext w wx)
  case first =>
    go_region_held3 (fun w' => w'.cell? ⟨gg1, oo1, none⟩ = some (.bool s1) ∧ w'.cell? ⟨gg1, oo1 + 1, none⟩ = some (.slice p1 n1 q1) ∧ w'.cell? ⟨gg1, oo1 + 2, none⟩ = some (.slice d1 k1 e1) ∧ w'.cell? ⟨gg2, oo2, none⟩ = some (.bool s2) ∧ w'.cell? ⟨gg2, oo2 + 1, none⟩ = some (.slice p2 n2 q2) ∧ w'.cell? ⟨gg2, oo2 + 2, none⟩ = some (.slice d2 k2 e2))
      (first | exact hS.out noY _ t1 rfl rfl | exact hS.out noY _ (ExtX.alloc t1 _) rfl rfl | exact hS.out noY _ hEA rfl rfl | exact hS.out noY _ (hEA.trans t2) rfl rfl | exact hS.out (ob (some ⟨w.heap.size, 0, none⟩)) _ ((ExtX.of (hEA.trans t2)).trans hst.2) (ob_other (by omega)) (ob_other (by omega)) | exact hS.out (ob (some ⟨w6.heap.size, 0, none⟩)) _ ((ExtX.of (t1.alloc _)).trans hst.2) (ob_other (by have := t1.size; have h9 : w.drew.heap.size = w.heap.size := rfl; omega)) (ob_other (by have := t1.size; have h9 : w.drew.heap.size = w.heap.size := rfl; omega)) | go_keep)
      (first | (go_at_call 135; (with_reducible refine qd.mono ?_); rintro ee w6 ⟨t1, u6, rfl, hu6⟩; obtain ⟨s6, a6, n6, c6, d6, k6, e6, rfl⟩ := hu6.shape; have hst := (Bx.new w6 #[.bool false, .slice none 0 0, .slice none 0 0] 31).set3 (.bool s6) (.slice a6 n6 c6) (.slice d6 k6 e6)) | (go_at_call 135; (with_reducible refine qdA.mono ?_); rintro ee w6 ⟨t2, u6, rfl, hu6⟩; obtain ⟨s6, a6, n6, c6, d6, k6, e6, rfl⟩ := hu6.shape; have bb := bA.ext0 t2; have y0 := bb.cell 0 rfl; have y1 := bb.cell 1 rfl; have y2 := bb.cell 2 rfl; have z0 := bb.frozen 0; have z1 := bb.frozen 1; have z2 := bb.frozen 2; have hst := bb.set3 (.bool s6) (.slice a6 n6 c6) (.slice d6 k6 e6)))
    · clear k00 k01 k02 k10 k11 k12
      go_wp2_with fail
      go_meet
      case rel => exact ⟨w6.heap.size, _, _, _, _, _, _, _, rfl, Bx.new w6 _ _, (hEd.trans t1).size, QC.mono _ _ _ _ (mk_ext ((ExtX.refl w6).alloc _)) hu6, (hEd.trans t1).alloc _⟩
    · have hq7 := QC.mono _ _ _ _ (mk_sub (X := Z) fun k _ hk => un_left hk) (QC.mono _ _ _ _ (mk_mono hst.2 fun k hk => un_right hk) hu6)
      have hE7 : Ext w _ := ExtX.box (hEA2.trans t2) hst.2 (Nat.le_refl _)
      clear k00 k01 k02 k10 k11 k12 y0 y1 y2 z0 z1 z2
      go_wp2_with fail
      go_meet
      case rel => exact ⟨w.heap.size, _, _, _, _, _, _, _, rfl, hst.1, Nat.le_refl _, hq7, hE7⟩
  case rest =>
    obtain ⟨bf, sf, af, nf, cf, df, kf, ef, rfl, b6, hbf, hqf, hEw⟩ := hcut
    clear k00 k01 k02 k10 k11 k12 i1 i2 qd qdA hS bA hEA hEA2
    have hXc := hX.ext hEw
    have h1c := h1.ext0 QC.elem hEw
    have h2c := h2.ext0 QC.elem hEw
    have f0 := b6.cell 0 rfl
    have f1 := b6.cell 1 rfl
    have f2 := b6.cell 2 rfl
    have hqv := hqf.qv hb3'.out
    by_cases h0 : f = 0
    · have hr := hid (hE0.out h0)
      have hs0 : Hid (f.num.sign = 0) := hid (by rw [h0]; rfl)
      clear h0
      go_wp2_with fail
      refine (qsign Z wc _ f hXc hqv).mono ?_
      rintro e w7 ⟨hE7, rfl⟩
      rw [hs0.out]
      clear f0 f1 f2
      go_wp2_with fail
      refine bodyPost_ret (results_none rfl _ _ _) rfl ?_
      exact ⟨rfl, ExtX.of (hEw.trans hE7), by rw [hr.out]; exact h1c.ext0 QC.elem hE7⟩
    · have hs0 : ((f.num.sign : Int) == 0) = false := beqF (by intro h; exact h0 (Rat.num_eq_zero.1 (Int.sign_eq_zero_iff_zero.1 h)))
      clear h0
      go_wp2_with fail
      refine (qsign Z wc _ f hXc hqv).mono ?_
      rintro e w7 ⟨hE7, rfl⟩
      have b7 := b6.ext0 hE7
      have hqf7 := mkx QV.mono hqv hE7
      have hE07 := hEw.trans hE7
      have h17 := h1c.ext0 QC.elem hE7
      have h27 := h2c.ext0 QC.elem hE7
      clear f0 f1 f2 b6
      go_wp2_with fail
      go_loopw [27] (fun k wr => ∃ (j : Nat), k = .int .i64 j ∧ j ≤ n ∧ OL QC 3 (cut Z a1) base 31 wr a1 c1 (mix E row j) ∧ OL QC 3 (cut Z a2) base 31 wr a2 c2 piv ∧ Bx wr bf #[.bool sf, .slice af nf cf, .slice df kf ef] 31 ∧ QV (mk Z wr) (.agg #[.bool sf, .slice af nf cf, .slice df kf ef]) f ∧ ExtX (ob a1) w wr) (fun k _ => n - (intOf k).toNat)
      case atStart => exact ⟨0, rfl, Nat.zero_le _, by rw [mix_zero]; exact h17, h27, b7, hqf7, ExtX.of hE07⟩
      case round =>
        obtain ⟨j, rfl, hj, hO1, hO2, b7, hqf7, hE⟩ := hrel
        have hXr := hX.ext hE
        by_cases hlj : j < n
        · have hjr : j < row.length := by rw [hl1'.out]; exact hlj
          have hjp : j < piv.length := by rw [hl2'.out]; exact hlj
          have hjE : j < E.length := by rw [hEl.out]; exact hlj
          have hml : Hid ((mix E row j).length = n) := hid (by rw [mix_len hrE.out, hEl.out])
          have hjm : j < (mix E row j).length := by rw [hml.out]; exact hlj
          have hmg : Hid ((mix E row j)[j] = row[j]) := hid (by rw [mix_getElem hrE.out, if_neg (by omega)])
          have hjs : Hid ((mix E row j).set j E[j] = mix E row (j + 1)) := hid (mix_set hrE.out hjE)
          have hEj : Hid (row[j] - f * piv[j] = E[j]) := hid (hEi.out j hjr hjp hjE).symm
          have hbp := hid (hb2'.out piv[j] (List.getElem_mem _))
          have hbr := hid (hb1'.out row[j] (List.getElem_mem _))
          have hbm := hid (hb4'.out piv[j] (List.getElem_mem _))
          obtain ⟨x, hx⟩ : ∃ x, piv[j] = x := ⟨_, rfl⟩
          obtain ⟨y, hy⟩ : ∃ y, row[j] = y := ⟨_, rfl⟩
          obtain ⟨v, hv⟩ : ∃ v, E[j] = v := ⟨_, rfl⟩
          obtain ⟨r, hr⟩ : ∃ r, mix E row j = r := ⟨_, rfl⟩
          obtain ⟨gg, oo, sg, ap, np, cp, dp, kp, ep, hg, hog, hcc, hrr⟩ := hO1.rat QC.shaped j hjm
          rw [hmg.out, hy, hu1.out] at hrr
          rw [hx, hy, hv] at hEj
          rw [hx] at hbp hbm
          rw [hy] at hbr
          rw [hv, hr] at hjs
          rw [hr] at hO1 hjm hml
          have hxp := hid hx
          have i1 : ∀ W, (Instr.indexAt 33 (.slice a1 n c1) (.int .i64 (j : Int))).run Tryz.prog W = .ok (.pointer (some ⟨gg, oo, none⟩)) W := by rw [← hg]; exact run_indexAt_adr slRat a1 n c1 .i64 j hd1 (by omega)
          have bx := Bx.new wr #[.bool false, .slice none 0 0, .slice none 0 0] 31
          clear hx hy hv hr hmg
          go_wp2_with (first | (with_reducible refine up_ixn slRat (by omega) (by assumption) ?_) | ((with_reducible show wpList _ _ _ (⟨_, .load _ _, _, _, _, _⟩ :: _) _ _); refine st_loadOL stRat j hO2 hjp rfl (by simp) QC.agg ?_; intro u5 hu5; rw [hxp.out, hu2.out] at hu5; obtain ⟨s5, a5, n5, c5, d5, k5, e5, rfl⟩ := hu5.shape) | ((with_reducible show wpList _ _ _ (⟨_, .store _ _ _, _, _, _, _⟩ :: _) _ _); refine st_storeBox stRat rfl rfl bx rfl rfl (one3 _ _ _ _ _ _ _) ?_; intro w5 r1 r2))
          have hE5 : Ext wr w5 := ExtX.box ((ExtX.refl wr).alloc _) r2 (Nat.le_refl _)
          have hEd : Ext w5 w5.drew := (ExtX.refl w5).drew
          have hE5d := hE5.trans hEd
          have hO5 := hO1.ext0 QC.elem hE5d
          have hP5 := hO2.ext0 QC.elem hE5d
          have b5 := b7.ext0 hE5d
          have hx5 : QV (mk Z w5.drew) (.agg #[.bool s5, .slice a5 n5 c5, .slice d5 k5 e5]) x := (mkx QC.mono hu5 hE5d).qv hbp.out
          have hy5 : QV (mk Z w5.drew) (.agg #[.bool sg, .slice ap np cp, .slice dp kp ep]) y := (mkx QC.mono hrr hE5d).qv hbr.out
          have hf5 : QV (mk Z w5.drew) (.agg #[.bool sf, .slice af nf cf, .slice df kf ef]) f := mkx QV.mono hqf7 hE5d
          have hXd : HX Z w5.drew := hXr.ext hE5d
          obtain ⟨bw, hbw⟩ : ∃ bw, wr.heap.size = bw := ⟨_, rfl⟩
          have hab : Hid (ob a1 bw = false) := hid (by rw [← hbw]; exact hO1.ob_ge (Nat.le_refl _))
          have haf : Hid (ob a1 bf = false) := hid (by
            cases hb : ob a1 bf
            · rfl
            · have := (h1.block hb).2; omega)
          rw [hbw] at r1
          have hS : Hid (∀ Y W', ExtX Y w5.drew W' → Y gg = false → Y bf = false → Y bw = false → W'.cell? ⟨gg, oo, none⟩ = some (.bool sg) ∧ W'.cell? ⟨gg, oo + 1, none⟩ = some (.slice ap np cp) ∧ W'.cell? ⟨gg, oo + 2, none⟩ = some (.slice dp kp ep) ∧ W'.cell? ⟨bf, 0, none⟩ = some (.bool sf) ∧ W'.cell? ⟨bf, 1, none⟩ = some (.slice af nf cf) ∧ W'.cell? ⟨bf, 2, none⟩ = some (.slice df kf ef) ∧ W'.cell? ⟨bw, 0, none⟩ = some (.bool s5) ∧ W'.cell? ⟨bw, 1, none⟩ = some (.slice a5 n5 c5) ∧ W'.cell? ⟨bw, 2, none⟩ = some (.slice d5 k5 e5)) := hid fun Y W' h hy1 hy2 hy3 => by
            have z1 := hcc.out Y W' ((ExtX.of hE5d).trans h) hy1
            have z2 := b5.ext h hy2
            have z3 := (r1.ext0 hEd).ext h hy3
            exact ⟨z1.1, z1.2.1, z1.2.2, z2.cell 0 rfl, z2.cell 1 rfl, z2.cell 2 rfl, z3.cell 0 rfl, z3.cell 1 rfl, z3.cell 2 rfl⟩
          obtain ⟨k00, k01, k02, k10, k11, k12, k20, k21, k22⟩ := hS.out noY w5.drew (ExtX.refl _) rfl rfl rfl
          have hR5 := r1.ext0 hEd
          clear r1 bx hcc
          rw [hbw]
          go_wp2_with fail
          go_region_with (first | (go_at_call 98; (with_reducible refine (qmul Z w5.drew _ _ _ _ hXd hf5 hx5).mono ?_); rintro ee w6 ⟨t1, u6, rfl, hu6⟩; obtain ⟨s6, a6, n6, c6, d6, k6, e6, rfl⟩ := hu6.shape; have hX6 := hXd.ext t1; have hy6 := mkx QV.mono hy5 t1; have hm6 := hu6.qv hbm.out; obtain ⟨m0, m1, m2, _⟩ := hS.out noY w6 t1 rfl rfl rfl) | (go_at_call 193; (with_reducible refine (qsub Z w6 _ _ _ _ hX6 hy6 hm6).mono ?_); rintro ee w7 ⟨t7, u7, rfl, hu7⟩; obtain ⟨s7, a7, n7, c7, d7, k7, e7, rfl⟩ := hu7.shape; rw [hEj.out] at hu7; have t2 := t1.trans t7; have hO7 := hO5.ext0 QC.elem t2; obtain ⟨_, v0, v1, v2, _, ⟨g0, f0⟩, ⟨g1, f1⟩, ⟨g2, f2⟩, _⟩ := hO7.cell3 j hjm hg; have hset := hO7.set3 tyRat QC.elem j hjm hg (v0 := .bool s7) (v1 := .slice a7 n7 c7) (v2 := .slice d7 k7 e7) (x := v) (by rw [hu1.out]; exact hu7)))
          all_goals
            obtain ⟨q1, q2⟩ := hset
            rw [hjs.out] at q1
            have hP8 := (hP5.ext0 QC.elem t2).ext QC.elem q2 (fun k _ hk => cut_mk (hz1 k hk) (hdis k hk)) (fun _ _ hk => hk)
            have b8 := (b5.ext0 t2).ext q2 haf.out
            have hf8 : QV (mk Z _) _ _ := QV.mono _ _ _ _ (mk_mono q2 hz1) (mkx QV.mono hf5 t2)
            have hE8 := (hE.trans (ExtX.of (hE5d.trans t2))).trans q2
            clear k00 k01 k02 k10 k11 k12 k20 k21 k22 m0 m1 m2 g0 g1 g2 f0 f1 f2 i1
            go_wp2_with fail
            go_roundw
            case rel => exact ⟨j + 1, by go_num, by omega, q1, hP8, b8, hf8, hE8⟩
            case measure => simp [intOf]; omega
        · have hjn : j = n := by omega
          subst hjn
          rw [mix_full (by rw [hEl.out]; exact Nat.le_refl _) (by rw [hl1'.out]; exact Nat.le_refl _)] at hO1
          go_wp2_with fail
          go_end0
          exact ⟨rfl, hE, hO1⟩
end Go.Proofs.YtjbhcniiioepgaaGreat


namespace Go.Lin
def idxI : Option Nat → Int
  | none => -1
  | some k => k
end Go.Lin
namespace Go.Proofs.YtjbhcniiioepgaaGreat
open Go.RowKit Go.Rep Go.Lim Go.Lin

theorem closure_any (X : Nat → Bool) (w : World) (a : Option Addr) (l : List Rat) (n c col b : Nat) (hX : HX X w) (hs : Sl QC 3 (mk X w) a l) (hl : l.length = n) (hcol : col < n) (hB : BR 68719476736 l) (hb : w.cell? ⟨b, 0, none⟩ = some (.int .i64 (col : Int))) :
    Calls Tryz.prog 148 #[.slice a n c, .pointer (some ⟨b, 0, none⟩)] w (BOut w (decide (l.getD col 0 ≠ 0))) := by
  have hh : Hd a n := by have := hs.hd; rw [hl] at this; exact this
  have hcl : col < l.length := by omega
  have hsv := hs.qv hB
  obtain ⟨x, hx⟩ : ∃ x, l[col] = x := ⟨_, rfl⟩
  have hg : Hid (l.getD col 0 = x) := hid (by simp [List.getD_eq_getElem?_getD, hcl, hx])
  have hx' := hid hx
  clear hl hB hx
  rw [hg.out]
  by_cases h0 : x = 0
  · have hr : Hid (decide (x ≠ 0) = false) := hid (by simp [h0])
    have hs0 : Hid (x.num.sign = 0) := hid (by rw [h0]; rfl)
    rw [hr.out]
    clear h0
    go_enter Tryz.func148, Tryz.ntmps148
    go_wp2_with (first | (with_reducible refine up_ixn slRat (by omega) (by assumption) ?_) | ((with_reducible show wpList _ _ _ (⟨_, .load 31 _, _, _, _, _⟩ :: _) _ _); refine st_loadElem stRat col hsv hcl rfl (by simp) QV.agg ?_; intro u5 hu5; rw [hx'.out] at hu5; obtain ⟨s5, a5, n5, c5, d5, k5, e5, rfl⟩ := hu5.shape))
    refine (qsign X w _ x hX hu5).mono ?_
    rintro e w7 ⟨hE7, rfl⟩
    rw [hs0.out]
    go_wp2_with fail
    go_ret
    exact ⟨hE7, rfl⟩
  · have hr : Hid (decide (x ≠ 0) = true) := hid (by simp [h0])
    have hs0 : ((x.num.sign : Int) != 0) = true := bneT (by intro h; exact h0 (Rat.num_eq_zero.1 (Int.sign_eq_zero_iff_zero.1 h)))
    rw [hr.out]
    clear h0
    go_enter Tryz.func148, Tryz.ntmps148
    go_wp2_with (first | (with_reducible refine up_ixn slRat (by omega) (by assumption) ?_) | ((with_reducible show wpList _ _ _ (⟨_, .load 31 _, _, _, _, _⟩ :: _) _ _); refine st_loadElem stRat col hsv hcl rfl (by simp) QV.agg ?_; intro u5 hu5; rw [hx'.out] at hu5; obtain ⟨s5, a5, n5, c5, d5, k5, e5, rfl⟩ := hu5.shape))
    refine (qsign X w _ x hX hu5).mono ?_
    rintro e w7 ⟨hE7, rfl⟩
    generalize x.num.sign = sg at hs0
    go_wp2_with fail
    go_ret
    exact ⟨hE7, rfl⟩

set_option maxRecDepth 100000 in
theorem indexfunc_any (X : Nat → Bool) (w : World) (a : Option Addr) (l : List (List Rat)) (n c nc col b : Nat) (hX : HX X w) (hs : Sl RC 1 (mk X w) a l) (hl : l.length = n) (hn : n ≤ 1000000) (hr : ∀ r ∈ l, r.length = nc) (hcol : col < nc) (hB : BM 68719476736 l) (hb : w.cell? ⟨b, 0, none⟩ = some (.int .i64 (col : Int))) :
    Calls Tryz.prog 147 #[.slice a n c, .func (.func 148) #[] #[.pointer (some ⟨b, 0, none⟩)]] w (fun e w' => Ext w w' ∧ e = .returned (.int .i64 (idxI (l.findIdx? fun r => decide (r.getD col 0 ≠ 0))))) := by
  have hh : Hd a n := by have := hs.hd; rw [hl] at this; exact this
  have hl' := hid hl
  have hr' := hid hr
  have hB' := hid hB
  have hres1 : Hid (∀ i (hi : i < l.length), (∀ q (hq : q < l.length), q < i → l[q].getD col 0 = 0) → l[i].getD col 0 ≠ 0 → l.findIdx? (fun r => decide (r.getD col 0 ≠ 0)) = some i) := hid fun i hi h1 h2 => by
    rw [List.findIdx?_eq_some_iff_getElem]
    exact ⟨hi, by simpa using h2, fun q hq => by simpa using h1 q (by omega) hq⟩
  have hres2 : Hid ((∀ q (hq : q < l.length), l[q].getD col 0 = 0) → l.findIdx? (fun r => decide (r.getD col 0 ≠ 0)) = none) := hid fun h1 => by
    rw [List.findIdx?_eq_none_iff]
    intro r hr
    obtain ⟨q, hq, rfl⟩ := List.getElem_of_mem hr
    simpa using h1 q hq
  obtain ⟨F, hF⟩ : ∃ F, l.findIdx? (fun r => decide (r.getD col 0 ≠ 0)) = F := ⟨_, rfl⟩
  rw [hF] at hres1 hres2 ⊢
  clear hl hr hB hF
  go_enter Tryz.func147, Tryz.ntmps147
  go_wp2_with fail
  go_loopw [8] (fun k wr => ∃ (i : Nat), k = .int .i64 i ∧ i ≤ n ∧ Hid (∀ q (hq : q < l.length), q < i → l[q].getD col 0 = 0) ∧ Ext w wr) (fun k _ => n - (intOf k).toNat)
  case atStart => exact ⟨0, rfl, Nat.zero_le _, hid (fun q hq h => by omega), ExtX.refl _⟩
  case round =>
    obtain ⟨i, rfl, hi, hok, hE⟩ := hrel
    by_cases hlt : i < n
    · have hil : i < l.length := by rw [hl'.out]; exact hlt
      obtain ⟨a1, c1, hX1, hc1, hcl1, hq1⟩ := (hs.mono RC.mono (mk_ext hE)).row i hil
      have k00 := hc1.out noY wr (ExtX.refl _) rfl
      have hrl := hid (hr'.out l[i] (List.getElem_mem _))
      have hbl := hid (hB'.out l[i] (List.getElem_mem _))
      rw [hrl.out] at k00
      have hcell := hE.cell hb
      have hcall := closure_any X wr a1 l[i] nc c1 col b (hX.ext hE) hq1 hrl.out hcol hbl.out hcell
      by_cases h0 : l[i].getD col 0 = 0
      · have hd : Hid (decide (l[i].getD col 0 ≠ 0) = false) := hid (decide_eq_false (fun h => h h0))
        rw [hd.out] at hcall
        have hok2 : Hid (∀ q (hq : q < l.length), q < i + 1 → l[q].getD col 0 = 0) := hid fun q hq hqi => by
          by_cases e : q = i
          · subst e; exact h0
          · exact hok.out q hq (by omega)
        clear h0 hc1 hq1
        go_wp2_with (with_reducible refine up_ix1 slRats (by omega) (by assumption) ?_)
        refine hcall.mono ?_
        rintro e w5 ⟨hE5, rfl⟩
        clear k00
        go_wp2_with fail
        go_roundw
        case rel => exact ⟨i + 1, by go_num, by omega, hok2, hE.trans hE5⟩
        case measure => simp [intOf]; omega
      · have hd : Hid (decide (l[i].getD col 0 ≠ 0) = true) := hid (decide_eq_true h0)
        rw [hd.out] at hcall
        have hf := hid (hres1.out i hil (fun q hq hqi => hok.out q hq hqi) h0)
        clear h0 hc1 hq1
        go_wp2_with (with_reducible refine up_ix1 slRats (by omega) (by assumption) ?_)
        refine hcall.mono ?_
        rintro e w5 ⟨hE5, rfl⟩
        clear k00
        go_wp2_with fail
        go_ret
        exact ⟨hE.trans hE5, ret_int (by rw [hf.out]; rfl)⟩
    · have hf := hid (hres2.out fun q hq => hok.out q hq (by rw [hl'.out] at hq; omega))
      go_wp2_with fail
      go_ret
      exact ⟨hE, ret_int (by rw [hf.out]; rfl)⟩
end Go.Proofs.YtjbhcniiioepgaaGreat

