/- Numbers of subsets. Plain mathematics. Conditions: none. -/
import Derived.Test.YtblifbnbjffgkaaLim
namespace Go.Lim

/-- n choose k. -/
def ch : Nat → Nat → Nat
  | _, 0 => 1
  | 0, _ + 1 => 0
  | n + 1, k + 1 => ch n k + ch n (k + 1)
theorem ch_zero (n : Nat) : ch n 0 = 1 := by cases n <;> rfl
theorem ch_gt : ∀ (n k : Nat), n < k → ch n k = 0
  | _, 0, h => by omega
  | 0, _ + 1, _ => rfl
  | n + 1, k + 1, h => by rw [ch, ch_gt n k (by omega), ch_gt n (k + 1) (by omega)]
theorem ch_self : ∀ n, ch n n = 1
  | 0 => rfl
  | n + 1 => by rw [ch, ch_self n, ch_gt n (n + 1) (by omega)]
theorem ch_mul : ∀ (n k : Nat), (k + 1) * ch (n + 1) (k + 1) = (n + 1) * ch n k
  | 0, 0 => rfl
  | 0, k + 1 => by simp [ch]
  | n + 1, 0 => by
    have h := ch_mul n 0
    simp only [ch_zero, Nat.zero_add, Nat.one_mul, Nat.mul_one] at h ⊢
    rw [ch, ch_zero, h]; omega
  | n + 1, k + 1 => by
    have h1 := ch_mul n k
    have h2 := ch_mul n (k + 1)
    have e1 : ch (n + 1 + 1) (k + 1 + 1) = ch (n + 1) (k + 1) + ch (n + 1) (k + 1 + 1) := rfl
    have e2 : ch (n + 1) (k + 1) = ch n k + ch n (k + 1) := rfl
    rw [e1, Nat.mul_add, h2]
    have e3 : (k + 1 + 1) * ch (n + 1) (k + 1) = (k + 1) * ch (n + 1) (k + 1) + ch (n + 1) (k + 1) := Nat.succ_mul _ _
    rw [e3, h1]
    have e4 : (n + 1 + 1) * ch (n + 1) (k + 1) = (n + 1) * ch (n + 1) (k + 1) + ch (n + 1) (k + 1) := Nat.succ_mul _ _
    rw [e4, e2, Nat.mul_add]
    omega
theorem ch_le : ∀ (n k : Nat), ch n k ≤ 2 ^ n
  | n, 0 => by rw [ch_zero]; exact Nat.one_le_two_pow
  | 0, _ + 1 => by simp [ch]
  | n + 1, k + 1 => by
    have h1 := ch_le n k
    have h2 := ch_le n (k + 1)
    rw [ch, Nat.pow_succ]; omega
theorem ch_pos : ∀ (n k : Nat), k ≤ n → 0 < ch n k
  | n, 0, _ => by rw [ch_zero]; exact Nat.one_pos
  | 0, _ + 1, h => by omega
  | n + 1, k + 1, h => by have := ch_pos n k (by omega); rw [ch]; omega
theorem ch_lt64 {n k : Nat} (h : n ≤ 64) : ch n k < B ^ 3 := by
  rw [B_two]
  have := ch_le n k
  have h2 : (2 : Nat) ^ n ≤ 2 ^ 64 := Nat.pow_le_pow_right (by decide) h
  have h3 : (2 : Nat) ^ 64 < 2 ^ (32 * 3) := Nat.pow_lt_pow_right (by decide) (by decide)
  omega
theorem lg_ch {n k : Nat} (h : n ≤ 64) : lg (ch n k) ≤ 3 := lg_le.2 (ch_lt64 h)
/-- One step of the program's product. -/
theorem ch_step (m i : Nat) (h : 0 < i) : ch (m + (i - 1)) (i - 1) * (m + i) / i = ch (m + i) i := by
  obtain ⟨j, rfl⟩ : ∃ j, i = j + 1 := ⟨i - 1, by omega⟩
  have e := ch_mul (m + j) j
  rw [show j + 1 - 1 = j from rfl, Nat.mul_comm, show m + (j + 1) = m + j + 1 from rfl, ← e, Nat.mul_div_cancel_left _ h]
/-- The reference's row of Pascal's triangle, from place j + 1 on already of the next row. -/
def PasInv (r : List Nat) (k i j : Nat) : Prop := r.length = k + 1 ∧ ∀ p (_ : p < r.length), r[p] = if j < p then ch (i + 1) p else ch i p
theorem PasInv.start (k : Nat) : PasInv ((List.replicate (k + 1) 0).set 0 1) k 0 k := by
  refine ⟨by simp, fun p h => ?_⟩
  simp at h
  rw [if_neg (by omega), List.getElem_set]
  split
  · subst_vars; rw [ch_zero]
  · cases p with
    | zero => omega
    | succ p => simp [ch]
theorem PasInv.step {r : List Nat} {k i j : Nat} (h : PasInv r k i j) (h0 : 0 < j) (hj : j ≤ k) {x y : Nat} (hx : r[j]'(by rw [h.1]; omega) = x) (hy : r[j - 1]'(by rw [h.1]; omega) = y) : PasInv (r.set j (x + y)) k i (j - 1) := by
  obtain ⟨h1, h2⟩ := h
  refine ⟨by simpa using h1, fun p hp => ?_⟩
  have e1 := h2 j (by omega)
  have e2 := h2 (j - 1) (by omega)
  rw [if_neg (by omega), hx] at e1
  rw [if_neg (by omega), hy] at e2
  rw [List.getElem_set]
  by_cases hjp : j = p
  · subst hjp
    rw [if_pos rfl, if_pos (by omega), e1, e2]
    obtain ⟨q, rfl⟩ : ∃ q, j = q + 1 := ⟨j - 1, by omega⟩
    rw [ch]; simp [Nat.add_comm]
  · rw [if_neg hjp, h2 p (by simpa using hp)]
    by_cases hpj : j < p
    · rw [if_pos hpj, if_pos (by omega)]
    · rw [if_neg hpj, if_neg (by omega)]
theorem PasInv.next {r : List Nat} {k i : Nat} (h : PasInv r k i 0) : PasInv r k (i + 1) k := by
  refine ⟨h.1, fun p hp => ?_⟩
  rw [h.2 p hp, if_neg (by have := h.1; omega : ¬ k < p)]
  split
  · rfl
  · obtain rfl : p = 0 := by omega
    rw [ch_zero, ch_zero]
theorem PasInv.done {r : List Nat} {k i : Nat} (h : PasInv r k i k) (hk : k < r.length) : r[k] = ch i k := by
  rw [h.2 k hk, if_neg (by omega)]
theorem PasInv.le {r : List Nat} {k i j : Nat} (h : PasInv r k i j) (p : Nat) (hp : p < r.length) (hi : i < 64) : lg r[p] ≤ 3 := by
  rw [h.2 p hp]; split
  · exact lg_ch (by omega)
  · exact lg_ch (by omega)
end Go.Lim
