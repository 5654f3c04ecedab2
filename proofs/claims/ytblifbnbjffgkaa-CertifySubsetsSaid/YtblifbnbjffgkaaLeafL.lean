/- Leaves: which lists of leaves cover all subsets. Plain mathematics. Conditions: none. -/
import Derived.Test.YtblifbnbjffgkaaIntsL
import Derived.Test.YtblifbnbjffgkaaComb
namespace Go.Lim

abbrev Leaf := List Int × List Int
/-- The sides of the numbers 0 to n - 1 in a leaf, with the first numbers of each list alone. -/
def sideL (n : Nat) (I O : List Int) : List Int := (List.range n).map fun (i : Nat) => if (i : Int) ∈ I then 1 else if (i : Int) ∈ O then 2 else 0
theorem sideL_length (n : Nat) (I O : List Int) : (sideL n I O).length = n := by simp [sideL]
theorem sideL_get (n : Nat) (I O : List Int) (p : Nat) (h : p < (sideL n I O).length) : (sideL n I O)[p] = if (p : Int) ∈ I then 1 else if (p : Int) ∈ O then 2 else 0 := by simp [sideL]
theorem sideL_zero (n : Nat) : sideL n [] [] = List.replicate n 0 := by
  apply List.ext_getElem
  · simp [sideL]
  · intro i h1 h2; rw [sideL_get]; simp
theorem sideL_in {n : Nat} {I : List Int} {k : Nat} (hk : k < I.length) {x : Nat} (hx : I[k] = (x : Int)) : (sideL n (I.take k) []).set x 1 = sideL n (I.take (k + 1)) [] := by
  apply List.ext_getElem
  · simp [sideL]
  · intro i h1 h2
    rw [List.getElem_set, sideL_get, sideL_get, List.take_succ_eq_append_getElem hk, hx]
    by_cases h : x = i
    · subst h; simp
    · have : ¬ (i : Int) = (x : Int) := by omega
      simp [h, this]
theorem sideL_out {n : Nat} {I O : List Int} {k : Nat} (hk : k < O.length) {x : Nat} (hx : O[k] = (x : Int)) (hI : ¬ (x : Int) ∈ I) : (sideL n I (O.take k)).set x 2 = sideL n I (O.take (k + 1)) := by
  apply List.ext_getElem
  · simp [sideL]
  · intro i h1 h2
    rw [List.getElem_set, sideL_get, sideL_get, List.take_succ_eq_append_getElem hk, hx]
    by_cases h : x = i
    · subst h; simp [hI]
    · have : ¬ (i : Int) = (x : Int) := by omega
      simp [h, this]

theorem ascB_iff {l : List Int} {n : Int} : ascB l n = true ↔ ∀ i, i < l.length → ascAt l n i = true := all_range_iff
theorem ascB_get {l : List Int} {n : Int} (h : ascB l n = true) (i : Nat) (hi : i < l.length) : 0 ≤ l[i] ∧ l[i] < n := by
  have := ascB_iff.1 h i hi
  simp only [ascAt, getD_eq hi, Bool.and_eq_true, decide_eq_true_eq] at this
  exact this.1
theorem ascB_mem {l : List Int} {n : Int} (h : ascB l n = true) {x : Int} (hx : x ∈ l) : 0 ≤ x ∧ x < n := by
  obtain ⟨i, hi, rfl⟩ := List.getElem_of_mem hx
  exact ascB_get h i hi
theorem ascB_step {l : List Int} {n : Int} (h : ascB l n = true) (i : Nat) (hi : i + 1 < l.length) : l[i]'(by omega) < l[i + 1] := by
  have := ascB_iff.1 h (i + 1) hi
  simp only [ascAt, getD_eq hi, Nat.add_sub_cancel, getD_eq (show i < l.length by omega), Bool.and_eq_true, Bool.or_eq_true, decide_eq_true_eq] at this
  rcases this.2 with h | h
  · omega
  · exact h
theorem ascB_lt {l : List Int} {n : Int} (h : ascB l n = true) : ∀ (i j : Nat) (hij : i < j) (hj : j < l.length), l[i]'(by omega) < l[j] := by
  intro i j hij hj
  obtain ⟨d, rfl⟩ : ∃ d, j = i + 1 + d := ⟨j - i - 1, by omega⟩
  induction d with
  | zero => exact ascB_step h i hj
  | succ d ih =>
    have h1 := ih (by omega) (by omega)
    have h2 := ascB_step h (i + 1 + d) hj
    exact Int.lt_trans h1 h2
theorem ascB_length {l : List Int} {n : Nat} (h : ascB l n = true) : l.length ≤ n := by
  have key : ∀ i (hi : i < l.length), (i : Int) ≤ l[i] := by
    intro i
    induction i with
    | zero => intro hi; exact (ascB_get h 0 hi).1
    | succ i ih => intro hi; have h1 := ih (by omega); have h2 := ascB_step h i hi; omega
  rcases Nat.eq_zero_or_pos l.length with h0 | h0
  · omega
  · have h1 := key (l.length - 1) (by omega)
    have h2 := (ascB_get h (l.length - 1) (by omega)).2
    omega

def leafOk (n h : Int) (x : Leaf) : Bool := ascB x.1 n && ascB x.2 n && decide ((x.1.length : Int) ≤ h) && decide ((x.2.length : Int) ≤ n - h) && !meets x.1 x.2
def apartL (x y : Leaf) : Bool := meets x.1 y.2 || meets x.2 y.1
/-- The leaf at place k is well-formed, and apart from those before it. -/
def goodAt (n h : Int) (L : List Leaf) (k : Nat) : Bool := leafOk n h (L.getD k ([], [])) && (List.range k).all fun j => apartL (L.getD k ([], [])) (L.getD j ([], []))
def sumL (n h : Nat) (L : List Leaf) : Nat := (L.map fun x => ch (n - x.1.length - x.2.length) (h - x.1.length)).sum
def coverB (n h : Int) (L : List Leaf) : Bool :=
  decide (1 ≤ n) && decide (n ≤ 64) && decide (0 ≤ h) && decide (h ≤ n) && decide (L.length ≤ 4096) && (List.range L.length).all (goodAt n h L) && decide (sumL n.toNat h.toNat L = ch n.toNat h.toNat)

/-- What the program asks of two lists of sides. -/
def apartS (a b : List Int) : Bool := (List.range a.length).any fun i => (a.getD i 0 + b.getD i 0 == 3) && (a.getD i 0 != 0) && (b.getD i 0 != 0)
theorem any_range_false {n : Nat} {p : Nat → Bool} (h : ∀ i, i < n → p i = false) : (List.range n).any p = false := by
  rw [List.any_eq_false]; intro i hi; simp [h i (by simpa using hi)]
theorem any_range_true {n : Nat} {p : Nat → Bool} (i : Nat) (h : i < n) (hp : p i = true) : (List.range n).any p = true := by
  rw [List.any_eq_true]; exact ⟨i, by simpa using h, hp⟩
theorem apartS_sides {n h : Nat} {x y : Leaf} (hx : leafOk n h x = true) (hy : leafOk n h y = true) : apartS (sideL n x.1 x.2) (sideL n y.1 y.2) = apartL x y := by
  simp only [leafOk, Bool.and_eq_true, Bool.not_eq_true'] at hx hy
  obtain ⟨⟨⟨⟨hx1, hx2⟩, _⟩, _⟩, hx5⟩ := hx
  obtain ⟨⟨⟨⟨hy1, hy2⟩, _⟩, _⟩, hy5⟩ := hy
  rw [Bool.eq_iff_iff]
  unfold apartS apartL
  simp only [List.any_eq_true, List.mem_range, sideL_length, Bool.or_eq_true, meets_iff, Bool.and_eq_true, beq_iff_eq, bne_iff_ne]
  constructor
  · rintro ⟨i, hi, ⟨h1, h2⟩, h3⟩
    rw [getD_eq (by rw [sideL_length]; exact hi), sideL_get] at h1 h2
    rw [getD_eq (by rw [sideL_length]; exact hi), sideL_get] at h1 h3
    by_cases a1 : (i : Int) ∈ x.1 <;> by_cases a2 : (i : Int) ∈ x.2 <;> by_cases a3 : (i : Int) ∈ y.1 <;> by_cases a4 : (i : Int) ∈ y.2 <;> simp [a1, a2, a3, a4] at h1 h2 h3
    all_goals first | exact .inl ⟨i, a1, a4⟩ | exact .inr ⟨i, a2, a3⟩
  · rintro (⟨v, h1, h2⟩ | ⟨v, h1, h2⟩)
    · obtain ⟨hv0, hvn⟩ := ascB_mem hx1 h1
      obtain ⟨i, rfl⟩ := Int.eq_ofNat_of_zero_le hv0
      have hny : ¬ (i : Int) ∈ y.1 := fun h3 => by rw [meets_iff.2 ⟨_, h3, h2⟩] at hy5; simp at hy5
      refine ⟨i, by omega, ?_⟩
      rw [getD_eq (by rw [sideL_length]; omega), getD_eq (by rw [sideL_length]; omega), sideL_get, sideL_get]
      simp [h1, h2, hny]
    · obtain ⟨hv0, hvn⟩ := ascB_mem hx2 h1
      obtain ⟨i, rfl⟩ := Int.eq_ofNat_of_zero_le hv0
      have hnx : ¬ (i : Int) ∈ x.1 := fun h3 => by rw [meets_iff.2 ⟨_, h3, h1⟩] at hx5; simp at hx5
      refine ⟨i, by omega, ?_⟩
      rw [getD_eq (by rw [sideL_length]; omega), getD_eq (by rw [sideL_length]; omega), sideL_get, sideL_get]
      simp [h1, h2, hnx]

theorem sideL_range (n : Nat) (I O : List Int) : ∀ i (h : i < (sideL n I O).length), 0 ≤ (sideL n I O)[i] ∧ (sideL n I O)[i] ≤ 2 := by
  intro i h
  rw [sideL_get]
  split
  · omega
  · split <;> omega
def sidesL (n : Nat) (L : List Leaf) : List (List Int) := L.map fun x => sideL n x.1 x.2
theorem sidesL_length (n : Nat) (L : List Leaf) : (sidesL n L).length = L.length := by simp [sidesL]
theorem sidesL_get (n : Nat) (L : List Leaf) (i : Nat) (h : i < (sidesL n L).length) : (sidesL n L)[i] = sideL n (L[i]'(by simpa [sidesL] using h)).1 (L[i]'(by simpa [sidesL] using h)).2 := by simp [sidesL]
theorem sidesL_take (n : Nat) (L : List Leaf) (k : Nat) (hk : k < L.length) : sidesL n (L.take (k + 1)) = sidesL n (L.take k) ++ [sideL n L[k].1 L[k].2] := by
  simp only [sidesL, List.take_succ_eq_append_getElem hk, List.map_append, List.map_cons, List.map_nil]
theorem sumL_take (n h : Nat) (L : List Leaf) (k : Nat) (hk : k < L.length) : sumL n h (L.take (k + 1)) = sumL n h (L.take k) + ch (n - L[k].1.length - L[k].2.length) (h - L[k].1.length) := by
  simp only [sumL, List.take_succ_eq_append_getElem hk, List.map_append, List.map_cons, List.map_nil, List.sum_append, List.sum_cons, List.sum_nil, Nat.add_zero]
theorem getD_leaf {L : List Leaf} {k : Nat} (hk : k < L.length) : L.getD k ([], []) = L[k] := by simp [List.getD, hk]
theorem leafOk_parts {N H : Nat} {I O : List Int} (h : leafOk N H (I, O) = true) : ascB I N = true ∧ ascB O N = true ∧ I.length ≤ H ∧ O.length + H ≤ N ∧ meets I O = false := by
  simp only [leafOk, Bool.and_eq_true, Bool.not_eq_true', decide_eq_true_eq] at h
  obtain ⟨⟨⟨⟨h1, h2⟩, h3⟩, h4⟩, h5⟩ := h
  exact ⟨h1, h2, by omega, by omega, h5⟩
theorem goodAt_bad {N H : Int} {L : List Leaf} {k : Nat} {x : Leaf} (hk : k < L.length) (hx : L[k] = x) (h : leafOk N H x = false) : goodAt N H L k = false := by
  unfold goodAt; rw [getD_leaf hk, hx, h]; rfl
theorem goodAt_not {N H : Int} {L : List Leaf} {k j : Nat} {x : Leaf} (hk : k < L.length) (hx : L[k] = x) (hj : j < k) (h : apartL x (L[j]'(by omega)) = false) : goodAt N H L k = false := by
  unfold goodAt
  rw [all_range_false j hj (by rw [getD_leaf hk, getD_leaf (by omega), hx]; exact h), Bool.and_false]
theorem goodAt_yes {N H : Int} {L : List Leaf} {k : Nat} {x : Leaf} (hk : k < L.length) (hx : L[k] = x) (h1 : leafOk N H x = true) (h : ∀ j (hj : j < k), apartL x (L[j]'(by omega)) = true) : goodAt N H L k = true := by
  unfold goodAt
  rw [getD_leaf hk, hx, h1, Bool.true_and]
  exact all_range_true fun j hj => by rw [getD_leaf (by omega)]; exact h j hj
theorem goodAt_ok {N H : Int} {L : List Leaf} {k : Nat} (hk : k < L.length) (h : goodAt N H L k = true) : leafOk N H L[k] = true := by
  unfold goodAt at h; rw [getD_leaf hk, Bool.and_eq_true] at h; exact h.1
theorem sumL_lt {N H : Nat} (hN : N ≤ 64) (L : List Leaf) : sumL N H L ≤ L.length * 2 ^ 64 := by
  induction L with
  | nil => simp [sumL]
  | cons x L ih =>
    have h1 := ch_le (N - x.1.length - x.2.length) (H - x.1.length)
    have h2 : (2 : Nat) ^ (N - x.1.length - x.2.length) ≤ 2 ^ 64 := Nat.pow_le_pow_right (by decide) (by omega)
    simp only [sumL, List.map_cons, List.sum_cons, List.length_cons] at ih ⊢
    omega
theorem lg_sumL {N H : Nat} (hN : N ≤ 64) (L : List Leaf) (hL : L.length ≤ 4096) : lg (sumL N H L) ≤ 3 := by
  rw [lg_le, B_two]
  have := sumL_lt (H := H) hN L
  have h2 : L.length * 2 ^ 64 ≤ 4096 * 2 ^ 64 := Nat.mul_le_mul_right _ hL
  have h3 : 4096 * 2 ^ 64 < 2 ^ (32 * 3) := by decide
  omega
end Go.Lim
