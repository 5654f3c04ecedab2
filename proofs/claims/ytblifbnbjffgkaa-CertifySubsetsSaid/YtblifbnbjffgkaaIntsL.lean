/- Lists of integers: ascending, without a common element. Plain mathematics. Conditions: none. -/
namespace Go.Lim

/-- The element at place i is from 0 to n - 1 and greater than the one before. -/
def ascAt (l : List Int) (n : Int) (i : Nat) : Bool := decide (0 ≤ l.getD i 0) && decide (l.getD i 0 < n) && (decide (i = 0) || decide (l.getD (i - 1) 0 < l.getD i 0))
def ascB (l : List Int) (n : Int) : Bool := (List.range l.length).all (ascAt l n)
theorem upto_succ {p : Nat → Prop} {i : Nat} (h : ∀ j, j < i → p j) (hi : p i) : ∀ j, j < i + 1 → p j := fun j hj => by
  by_cases hji : j < i
  · exact h j hji
  · obtain rfl : j = i := by omega
    exact hi
theorem all_range_false {n : Nat} {p : Nat → Bool} (i : Nat) (h : i < n) (hp : p i = false) : (List.range n).all p = false := by
  rw [List.all_eq_false]; exact ⟨i, by simpa using h, by simp [hp]⟩
theorem all_range_true {n : Nat} {p : Nat → Bool} (h : ∀ i, i < n → p i = true) : (List.range n).all p = true := by
  rw [List.all_eq_true]; intro i hi; exact h i (by simpa using hi)
theorem all_range_iff {n : Nat} {p : Nat → Bool} : (List.range n).all p = true ↔ ∀ i, i < n → p i = true := by
  rw [List.all_eq_true]; simp
theorem ascAt_eq {l : List Int} {n : Int} {i : Nat} {x y : Int} (hx : l.getD i 0 = x) (hy : l.getD (i - 1) 0 = y) : ascAt l n i = (decide (0 ≤ x) && decide (x < n) && (decide (i = 0) || decide (y < x))) := by
  unfold ascAt; rw [hx, hy]
theorem getD_eq {l : List Int} {i : Nat} (h : i < l.length) : l.getD i 0 = l[i] := by simp [List.getD, h]
/-- Some number is in both lists. -/
def meets (a b : List Int) : Bool := a.any fun x => b.any fun y => x == y
theorem meets_iff {a b : List Int} : meets a b = true ↔ ∃ x, x ∈ a ∧ x ∈ b := by
  simp [meets, List.any_eq_true]
theorem meets_hit {a b : List Int} {i j : Nat} (hi : i < a.length) (hj : j < b.length) (h : a[i] = b[j]) : meets a b = true :=
  meets_iff.2 ⟨a[i], List.getElem_mem _, by rw [h]; exact List.getElem_mem _⟩
theorem meets_none {a b : List Int} (h : ∀ i (hi : i < a.length) j (hj : j < b.length), a[i] ≠ b[j]) : meets a b = false := by
  cases hm : meets a b
  · rfl
  · obtain ⟨x, h1, h2⟩ := meets_iff.1 hm
    obtain ⟨i, hi, rfl⟩ := List.getElem_of_mem h1
    obtain ⟨j, hj, he⟩ := List.getElem_of_mem h2
    exact absurd he.symm (h i hi j hj)
theorem list_eq_of {a b : List Int} (hl : a.length = b.length) (h : ∀ i (hi : i < a.length) (hj : i < b.length), a[i] = b[i]) : a = b := List.ext_getElem hl h
end Go.Lim
