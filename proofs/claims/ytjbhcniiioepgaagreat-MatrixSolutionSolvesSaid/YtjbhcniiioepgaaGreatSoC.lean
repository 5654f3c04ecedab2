/- Subtraction, shifts and long division of lists of digits: invariants of the loops, and Knuth's estimate of a digit. Plain mathematics. Conditions: none. bits.Sub32, natural.Sub. Conditions: lengths far below any machine's. Lists of integers: ascending, without a common element. Plain mathematics. Conditions: none. Numbers of subsets. Plain mathematics. Conditions: none. Leaves: which lists of leaves cover all subsets. Plain mathematics. Conditions: none. -/
import Derived.Test.YtjbhcniiioepgaaGreatSoB
import Derived.Laws.Bits64b
namespace Go.Lim

theorem nv_take_lt {l : List Nat} (h : Dig l) (k : Nat) : nv (l.take k) < B ^ k := by
  refine Nat.lt_of_lt_of_le (nv_lt (h.take k)) (Nat.pow_le_pow_right B_pos ?_)
  simp; omega
theorem nv_take_of_lt {l : List Nat} {k : Nat} (h : nv l < B ^ k) : nv (l.take k) = nv l := by
  by_cases hk : k ≤ l.length
  · have h1 := nv_split l k hk
    have h2 : nv (l.drop k) = 0 := by
      by_cases h0 : nv (l.drop k) = 0
      · exact h0
      · have : B ^ k * 1 ≤ B ^ k * nv (l.drop k) := Nat.mul_le_mul_left _ (by omega)
        omega
    rw [h2] at h1; omega
  · rw [List.take_of_length_le (by omega)]
theorem nv_le_of_take (l : List Nat) (k : Nat) : nv (l.take k) ≤ nv l := by
  by_cases hk : k ≤ l.length
  · have h1 := nv_split l k hk; omega
  · rw [List.take_of_length_le (by omega)]; exact Nat.le_refl _
theorem getD_of_lt {l : List Nat} {i : Nat} (h : i < l.length) : l.getD i 0 = l[i] := by simp [List.getD, h]
theorem getD_of_ge {l : List Nat} {i : Nat} (h : l.length ≤ i) : l.getD i 0 = 0 := by simp [List.getD, h]

/-- One digit of a difference: x - y - c, to the base. -/
def subD (x y c : Nat) : Nat := (x + 4294967296 - y - c) % 4294967296
def subC (x y c : Nat) : Nat := if x < y + c then 1 else 0
theorem subD_eq {x y c : Nat} (hx : x < B) (hy : y < B) (hc : c ≤ 1) : subD x y c + y + c = x + B * subC x y c ∧ subD x y c < B ∧ subC x y c ≤ 1 := by
  rw [B_eq] at *
  unfold subD subC
  split <;> omega

/-- In a subtraction: i digits done, the borrow. -/
def SubInv (a b o : List Nat) (i c : Nat) : Prop := o.length = a.length ∧ Dig o ∧ c ≤ 1 ∧ nv (o.take i) + nv (b.take i) = nv (a.take i) + B ^ i * c
theorem SubInv.start (a b : List Nat) : SubInv a b (List.replicate a.length 0) 0 0 := ⟨by simp, Dig.zeros _, by omega, by simp [nv]⟩
theorem SubInv.step {a b o : List Nat} {i c x y : Nat} (h : SubInv a b o i c) (hi : i < a.length) (hx : a[i] = x) (hy : b.getD i 0 = y) (ha : Dig a) (hb : Dig b) :
    SubInv a b (o.set i (subD x y c)) (i + 1) (subC x y c) := by
  obtain ⟨h1, h2, h3, h4⟩ := h
  have hai := ha.get i hi
  have hyB := hb.getD i
  rw [hx] at hai
  rw [hy] at hyB
  obtain ⟨e1, e2, e3⟩ := subD_eq hai hyB h3
  refine ⟨by simpa using h1, h2.set _ _ e2, e3, ?_⟩
  rw [take_set_succ o i _ (by omega), nv_snoc, nv_take_succ a i hi, nv_take_getD, hx, hy, List.length_take, Nat.min_eq_left (by omega), Nat.pow_succ]
  generalize subD x y c = d at *
  generalize subC x y c = c' at *
  have e4 : B ^ i * (d + y + c) = B ^ i * (x + B * c') := by rw [e1]
  rw [Nat.mul_add, Nat.mul_add, Nat.mul_add] at e4
  rw [Nat.mul_assoc]
  omega
theorem SubInv.done {a b o : List Nat} {c : Nat} (h : SubInv a b o a.length c) (hab : b.length ≤ a.length) (hle : nv b ≤ nv a) : nv o = nv a - nv b := by
  obtain ⟨h1, h2, h3, h4⟩ := h
  rw [List.take_of_length_le (Nat.le_of_eq h1), List.take_of_length_le hab, List.take_of_length_le (Nat.le_refl _)] at h4
  have h5 := nv_lt h2
  rw [h1] at h5
  have h6 : c = 0 := by
    by_cases h0 : c = 0
    · exact h0
    · have : c = 1 := by omega
      subst this; omega
  subst h6; omega

/-- In 'reduce': k digits of x V taken from the window W, the carry of the product and the borrow. -/
def RedInv (W V : List Nat) (x : Nat) (o : List Nat) (k cy bo : Nat) : Prop :=
  o.length = W.length ∧ Dig o ∧ o.drop k = W.drop k ∧ bo ≤ 1 ∧ cy < B ∧ (∃ L, L < B ^ k ∧ x * nv (V.take k) = L + B ^ k * cy) ∧ nv (o.take k) + x * nv (V.take k) = nv (W.take k) + B ^ k * (cy + bo)
theorem RedInv.start {W V : List Nat} {x : Nat} (hW : Dig W) : RedInv W V x W 0 0 0 := ⟨rfl, hW, rfl, by omega, B_pos, ⟨0, by simp, by simp [nv]⟩, by simp [nv]⟩
theorem RedInv.step {W V o : List Nat} {x k cy bo y z : Nat} (h : RedInv W V x o k cy bo) (hk : k < W.length) (hy : V.getD k 0 = y) (hz : o.getD k 0 = z) (hV : Dig V) (hx : x < B) :
    RedInv W V x (o.set k (subD z ((cy + x * y) % 4294967296) bo)) (k + 1) ((cy + x * y) / 4294967296) (subC z ((cy + x * y) % 4294967296) bo) ∧ cy + x * y < 18446744073709551616 ∧ z < 4294967296 := by
  obtain ⟨h1, h2, h3, h4, h5, ⟨L, h6, h7⟩, h8⟩ := h
  have hyB := hV.getD k
  rw [hy] at hyB
  have hzB := h2.getD k
  rw [hz] at hzB
  have hzW : W[k] = z := by
    have e0 : (o.drop k)[0]'(by simp; omega) = (W.drop k)[0]'(by simp; omega) := by simp only [h3]
    simp at e0
    rw [← e0, ← hz, getD_of_lt (by omega)]
  have hm : x * y ≤ 4294967295 * 4294967295 := Nat.mul_le_mul (by rw [B_eq] at hx; omega) (by rw [B_eq] at hyB; omega)
  obtain ⟨lo, hlo⟩ : ∃ lo, (cy + x * y) % 4294967296 = lo := ⟨_, rfl⟩
  obtain ⟨hi, hhi⟩ : ∃ hi, (cy + x * y) / 4294967296 = hi := ⟨_, rfl⟩
  have hdm : B * hi + lo = cy + x * y := by rw [← hlo, ← hhi, B_eq]; exact Nat.div_add_mod _ _
  have hloB : lo < B := by rw [← hlo, B_eq]; exact Nat.mod_lt _ (by decide)
  have hhiB : hi < B := by rw [B_eq] at h5 ⊢; omega
  rw [hlo, hhi]
  obtain ⟨e1, e2, e3⟩ := subD_eq hzB hloB h4
  have hV1 : nv (V.take (k + 1)) = nv (V.take k) + B ^ k * y := by rw [nv_take_getD, hy]
  have e5 : B ^ k * (B * hi + lo) = B ^ k * (cy + x * y) := by rw [hdm]
  rw [Nat.mul_add, Nat.mul_add] at e5
  have e6 : x * (nv (V.take k) + B ^ k * y) = x * nv (V.take k) + B ^ k * (x * y) := by rw [Nat.mul_add, Nat.mul_left_comm]
  refine ⟨⟨by simpa using h1, h2.set _ _ e2, ?_, e3, hhiB, ⟨L + B ^ k * lo, ?_, ?_⟩, ?_⟩, by rw [B_eq] at h5; omega, by rw [B_eq] at hzB; exact hzB⟩
  · rw [List.drop_set_of_lt (by omega)]
    have : (o.drop k).drop 1 = (W.drop k).drop 1 := by rw [h3]
    simpa using this
  · rw [Nat.pow_succ]
    have : B ^ k * lo + B ^ k ≤ B ^ k * B := by rw [← Nat.mul_succ]; exact Nat.mul_le_mul_left _ hloB
    omega
  · rw [hV1, e6, h7, Nat.pow_succ, Nat.mul_assoc]; omega
  · rw [take_set_succ o k _ (by omega), nv_snoc, nv_take_succ W k hk, hzW, hV1, e6, List.length_take, Nat.min_eq_left (by omega), Nat.pow_succ, Nat.mul_assoc, Nat.mul_add]
    rw [Nat.mul_add] at h8
    generalize subD z lo bo = d at *
    generalize subC z lo bo = c' at *
    have e7 : B ^ k * (d + lo + bo) = B ^ k * (z + B * c') := by rw [e1]
    rw [Nat.mul_add, Nat.mul_add, Nat.mul_add] at e7
    rw [Nat.mul_add]
    omega
theorem RedInv.done {W V o : List Nat} {x cy bo n : Nat} (h : RedInv W V x o W.length cy bo) (hW : W.length = n + 1) (hV : V.length = n) (hVd : Dig V) (hx : x < B) :
    o.length = n + 1 ∧ Dig o ∧ ((bo = 0 ∧ nv o + x * nv V = nv W) ∨ (bo = 1 ∧ nv W < x * nv V ∧ nv o + x * nv V = nv W + B ^ (n + 1))) := by
  obtain ⟨h1, h2, h3, h4, h5, ⟨L, h6, h7⟩, h8⟩ := h
  have hVl := nv_lt hVd
  rw [hV] at hVl
  have hol := nv_lt h2
  rw [h1, hW] at hol
  rw [List.take_of_length_le (by omega)] at h7
  rw [List.take_of_length_le (by omega), List.take_of_length_le (by omega), List.take_of_length_le (Nat.le_refl _)] at h8
  rw [hW] at h6 h7 h8
  have hxv : x * nv V < B ^ (n + 1) := by
    rw [Nat.pow_succ, Nat.mul_comm (B ^ n)]
    exact Nat.lt_of_le_of_lt (Nat.mul_le_mul_right _ (Nat.le_of_lt hx)) (Nat.mul_lt_mul_of_pos_left hVl B_pos)
  have hcy : cy = 0 := by
    by_cases h0 : cy = 0
    · exact h0
    · have : B ^ (n + 1) * 1 ≤ B ^ (n + 1) * cy := Nat.mul_le_mul_left _ (by omega)
      omega
  subst hcy
  refine ⟨by omega, h2, ?_⟩
  rcases (show bo = 0 ∨ bo = 1 by omega) with rfl | rfl
  · left; exact ⟨rfl, by simpa using h8⟩
  · right
    rw [Nat.zero_add, Nat.mul_one] at h8
    exact ⟨rfl, by omega, h8⟩

/-- In 'restore': k digits of V added to the window W, the carry. -/
def ResInv (W V : List Nat) (o : List Nat) (k c : Nat) : Prop :=
  o.length = W.length ∧ Dig o ∧ o.drop k = W.drop k ∧ c ≤ 1 ∧ nv (o.take k) + B ^ k * c = nv (W.take k) + nv (V.take k)
theorem ResInv.start {W V : List Nat} (hW : Dig W) : ResInv W V W 0 0 := ⟨rfl, hW, rfl, by omega, by simp [nv]⟩
theorem ResInv.step {W V o : List Nat} {k c y z : Nat} (h : ResInv W V o k c) (hk : k < W.length) (hy : V.getD k 0 = y) (hz : o.getD k 0 = z) (hV : Dig V) :
    ResInv W V (o.set k ((z + y + c) % 4294967296)) (k + 1) ((z + y + c) / 4294967296) ∧ z < 4294967296 := by
  obtain ⟨h1, h2, h3, h4, h8⟩ := h
  have hyB := hV.getD k
  rw [hy, B_eq] at hyB
  have hzB := h2.getD k
  rw [hz, B_eq] at hzB
  have hzW : W[k] = z := by
    have e0 : (o.drop k)[0]'(by simp; omega) = (W.drop k)[0]'(by simp; omega) := by simp only [h3]
    simp at e0
    rw [← e0, ← hz, getD_of_lt (by omega)]
  refine ⟨⟨by simpa using h1, h2.set _ _ (by rw [B_eq]; exact Nat.mod_lt _ (by decide)), ?_, by omega, ?_⟩, hzB⟩
  · rw [List.drop_set_of_lt (by omega)]
    have : (o.drop k).drop 1 = (W.drop k).drop 1 := by rw [h3]
    simpa using this
  · rw [take_set_succ o k _ (by omega), nv_snoc, nv_take_succ W k hk, hzW, nv_take_getD, hy, List.length_take, Nat.min_eq_left (by omega), Nat.pow_succ, Nat.mul_assoc]
    have e : (z + y + c) % 4294967296 + B * ((z + y + c) / 4294967296) = z + y + c := by rw [B_eq]; omega
    have e2 : B ^ k * ((z + y + c) % 4294967296) + B ^ k * (B * ((z + y + c) / 4294967296)) = B ^ k * z + B ^ k * y + B ^ k * c := by rw [← Nat.mul_add, e, Nat.mul_add, Nat.mul_add]
    omega
theorem ResInv.done {W V o : List Nat} {c n : Nat} (h : ResInv W V o W.length c) (hW : W.length = n + 1) (hV : V.length = n) : o.length = n + 1 ∧ Dig o ∧ c ≤ 1 ∧ nv o + B ^ (n + 1) * c = nv W + nv V := by
  obtain ⟨h1, h2, h3, h4, h8⟩ := h
  rw [List.take_of_length_le (by omega), List.take_of_length_le (Nat.le_refl _), List.take_of_length_le (by omega), hW] at h8
  exact ⟨by omega, h2, h4, h8⟩

/-- In 'shifted': k digits moved to the left by s bits. -/
def ShInv (a o : List Nat) (s k : Nat) : Prop := o.length = a.length + 1 ∧ Dig o ∧ (∀ p, k < p → o.getD p 0 = 0) ∧ o.getD k 0 < 2 ^ s ∧ nv (o.take (k + 1)) = nv (a.take k) * 2 ^ s
theorem ShInv.start (a : List Nat) (s : Nat) : ShInv a (List.replicate (a.length + 1) 0) s 0 :=
  ⟨by simp, Dig.zeros _, fun p _ => by by_cases h : p < a.length + 1 <;> simp [List.getD, h], by simp [List.getD]; exact Nat.two_pow_pos _, by rw [nv_take_getD]; simp [nv, List.getD]⟩
theorem or_shift {lo x s : Nat} (hlo : lo < 2 ^ s) (hs : s < 32) : lo ||| (x * 2 ^ s) % 4294967296 = lo + (x * 2 ^ s) % 4294967296 := by
  have e : (x * 2 ^ s) % 4294967296 = 2 ^ s * (x % 2 ^ (32 - s)) := by
    rw [show (4294967296 : Nat) = 2 ^ s * 2 ^ (32 - s) by rw [← Nat.pow_add, show s + (32 - s) = 32 by omega], Nat.mul_comm x, Nat.mul_mod_mul_left]
  rw [e, Nat.or_comm, ← Nat.two_pow_add_eq_or_of_lt hlo, Nat.add_comm]
theorem ShInv.step {a o : List Nat} {s k x lo : Nat} (h : ShInv a o s k) (hk : k < a.length) (hx : a[k] = x) (hlo : o.getD k 0 = lo) (ha : Dig a) (hs : s < 32) :
    ShInv a ((o.set k (lo ||| (x * 2 ^ s) % 4294967296)).set (k + 1) (x * 2 ^ s / 4294967296)) s (k + 1) ∧ (lo ||| (x * 2 ^ s) % 4294967296) < 4294967296 ∧ x * 2 ^ s < 18446744073709551616 ∧ x * 2 ^ s / 4294967296 < 4294967296 := by
  obtain ⟨h1, h2, h3, h4, h5⟩ := h
  have hai := ha.get k hk
  rw [hx, B_eq] at hai
  rw [hlo] at h4
  rw [or_shift h4 hs]
  have hp : (2 : Nat) ^ s ≤ 2 ^ 31 := Nat.pow_le_pow_right (by omega) (by omega)
  have hdiv : x * 2 ^ s / 4294967296 < 2 ^ s := Nat.div_lt_of_lt_mul (Nat.mul_lt_mul_of_pos_right hai (Nat.two_pow_pos _))
  have hsum : lo + (x * 2 ^ s) % 4294967296 < 4294967296 := by
    have e : (x * 2 ^ s) % 4294967296 = 2 ^ s * (x % 2 ^ (32 - s)) := by
      rw [show (4294967296 : Nat) = 2 ^ s * 2 ^ (32 - s) by rw [← Nat.pow_add, show s + (32 - s) = 32 by omega], Nat.mul_comm x, Nat.mul_mod_mul_left]
    have e2 : x % 2 ^ (32 - s) < 2 ^ (32 - s) := Nat.mod_lt _ (Nat.two_pow_pos _)
    have e3 : 2 ^ s * (x % 2 ^ (32 - s)) + 2 ^ s ≤ 2 ^ s * 2 ^ (32 - s) := by rw [← Nat.mul_succ]; exact Nat.mul_le_mul_left _ e2
    have e4 : 2 ^ s * 2 ^ (32 - s) = 4294967296 := by rw [← Nat.pow_add, show s + (32 - s) = 32 by omega]
    omega
  have hxs : x * 2 ^ s < 18446744073709551616 := by
    have : x * 2 ^ s ≤ x * 2 ^ 31 := Nat.mul_le_mul_left _ hp
    omega
  refine ⟨⟨by simpa using h1, (h2.set _ _ (by rw [B_eq]; exact hsum)).set _ _ (by rw [B_eq]; omega), fun p hp => ?_, ?_, ?_⟩, hsum, hxs, by omega⟩
  · have := h3 p (by omega)
    simp only [List.getD_eq_getElem?_getD] at this ⊢
    rw [List.getElem?_set_ne (by omega), List.getElem?_set_ne (by omega)]; exact this
  · rw [getD_of_lt (by simp; omega), List.getElem_set_self]; exact hdiv
  · rw [take_set_succ _ _ _ (by simp; omega), nv_snoc, take_set_succ _ _ _ (by omega), nv_snoc]
    simp only [List.length_append, List.length_take, List.length_singleton, h1]
    rw [Nat.min_eq_left (by omega), nv_take_succ a k hk, hx, Nat.add_mul]
    rw [nv_take_getD, hlo] at h5
    have e := Nat.div_add_mod (x * 2 ^ s) 4294967296
    have hmin : min (k + 1) (a.length + 1) = k + 1 := by omega
    rw [Nat.mul_add, Nat.pow_succ, Nat.mul_assoc (B ^ k)]
    try rw [hmin]
    have e2 : B ^ k * (B * (x * 2 ^ s / 4294967296)) + B ^ k * (x * 2 ^ s % 4294967296) = B ^ k * x * 2 ^ s := by rw [← Nat.mul_add, B_eq, e, Nat.mul_assoc]
    omega
theorem ShInv.done {a o : List Nat} {s : Nat} (h : ShInv a o s a.length) : o.length = a.length + 1 ∧ Dig o ∧ o.getD a.length 0 < 2 ^ s ∧ nv o = nv a * 2 ^ s := by
  obtain ⟨h1, h2, h3, h4, h5⟩ := h
  rw [List.take_of_length_le (by omega), List.take_of_length_le (Nat.le_refl _)] at h5
  exact ⟨h1, h2, h4, h5⟩

/-- Knuth's estimate to the base b: the quotient of the three highest digits by the two highest, at most the greatest digit. -/
def estB (b u2 u1 u0 v1 v0 : Nat) : Nat := min ((u2 * (b * b) + u1 * b + u0) / (v1 * b + v0)) (b - 1)
/-- In 'guess'. -/
def GInvB (b u2 u1 u0 v1 v0 q r : Nat) : Prop := q * v1 + r = u2 * b + u1 ∧ estB b u2 u1 u0 v1 v0 ≤ q ∧ q ≤ b + 1
theorem GInvB.start {b u2 u1 u0 v1 v0 : Nat} (hv : b ≤ 2 * v1) (hb : 2 ≤ b) (h2 : u2 ≤ v1) (h1 : u1 < b) (h0 : u0 < b) : GInvB b u2 u1 u0 v1 v0 ((u2 * b + u1) / v1) ((u2 * b + u1) % v1) := by
  refine ⟨by rw [Nat.mul_comm]; exact Nat.div_add_mod _ _, ?_, ?_⟩
  · unfold estB
    refine Nat.le_trans (Nat.min_le_left _ _) ?_
    rw [Nat.le_div_iff_mul_le (by omega)]
    generalize hq : (u2 * (b * b) + u1 * b + u0) / (v1 * b + v0) = q
    have e : q * (v1 * b + v0) ≤ u2 * (b * b) + u1 * b + u0 := by rw [← hq]; exact Nat.div_mul_le_self _ _
    have e1 : q * v1 * b < (u2 * b + u1 + 1) * b := by
      rw [Nat.mul_add, ← Nat.mul_assoc] at e
      rw [Nat.add_mul, Nat.add_mul, Nat.mul_assoc u2, Nat.one_mul]
      omega
    have := Nat.lt_of_mul_lt_mul_right e1
    omega
  · have : (u2 * b + u1) / v1 < b + 2 := by
      rw [Nat.div_lt_iff_lt_mul (by omega)]
      have : u2 * b ≤ v1 * b := Nat.mul_le_mul_right _ h2
      rw [Nat.add_mul, Nat.mul_comm b v1]
      omega
    omega
theorem GInvB.more {b u2 u1 u0 v1 v0 q r : Nat} (h : GInvB b u2 u1 u0 v1 v0 q r) (hb : 2 ≤ b) (hc : b ≤ q ∨ r * b + u0 < q * v0) (hv : 0 < v1) : 1 ≤ q ∧ GInvB b u2 u1 u0 v1 v0 (q - 1) (r + v1) := by
  obtain ⟨h1, h2, h3⟩ := h
  have hlt : estB b u2 u1 u0 v1 v0 < q := by
    rcases hc with hc | hc
    · unfold estB; omega
    · unfold estB
      refine Nat.lt_of_le_of_lt (Nat.min_le_left _ _) ?_
      have hp : 0 < v1 * b := Nat.mul_pos hv (by omega)
      have e5 : q * (v1 * b + v0) = q * v1 * b + q * v0 := by rw [Nat.mul_add, Nat.mul_assoc]
      rw [Nat.div_lt_iff_lt_mul (by omega), e5]
      have e : (q * v1 + r) * b = (u2 * b + u1) * b := by rw [h1]
      rw [Nat.add_mul, Nat.add_mul, Nat.mul_assoc u2] at e
      omega
  refine ⟨by omega, ?_, by omega, by omega⟩
  obtain ⟨p, rfl⟩ : ∃ p, q = p + 1 := ⟨q - 1, by omega⟩
  rw [Nat.succ_mul] at h1
  rw [show p + 1 - 1 = p from rfl]; omega
theorem GInvB.less {b u2 u1 u0 v1 v0 q r : Nat} (h : GInvB b u2 u1 u0 v1 v0 q r) (hb : 2 ≤ b) (hv : b ≤ 2 * v1) (h2' : u2 ≤ v1) (hu1 : u1 < b) (hv0 : v0 < b) (hc : b ≤ r ∨ (q < b ∧ q * v0 ≤ r * b + u0)) : q = estB b u2 u1 u0 v1 v0 := by
  obtain ⟨h1, h2, h3⟩ := h
  have hq : q < b := by
    rcases hc with hc | hc
    · by_cases hq : q < b
      · exact hq
      · have e1 : b * v1 ≤ q * v1 := Nat.mul_le_mul_right _ (by omega)
        have e2 : u2 * b ≤ v1 * b := Nat.mul_le_mul_right _ h2'
        rw [Nat.mul_comm b] at e1
        omega
    · exact hc.1
  have hv0' : q * v0 ≤ r * b + u0 := by
    rcases hc with hc | hc
    · have e1 : q * v0 ≤ b * b := Nat.mul_le_mul (by omega) (by omega)
      have e2 : b * b ≤ r * b := Nat.mul_le_mul_right _ hc
      omega
    · exact hc.2
  refine Nat.le_antisymm ?_ h2
  unfold estB
  refine Nat.le_min.2 ⟨?_, by omega⟩
  have hp : 0 < v1 * b := Nat.mul_pos (by omega) (by omega)
  rw [Nat.le_div_iff_mul_le (by omega), Nat.mul_add, ← Nat.mul_assoc]
  have e : (q * v1 + r) * b = (u2 * b + u1) * b := by rw [h1]
  rw [Nat.add_mul, Nat.add_mul, Nat.mul_assoc u2] at e
  omega

theorem nv_top3 {W : List Nat} {n : Nat} (hW : W.length = n + 3) : nv W = nv (W.take n) + B ^ n * (W[n + 2] * (B * B) + W[n + 1] * B + W[n]) := by
  have e : W.take (n + 3) = W := List.take_of_length_le (by omega)
  have h0 : nv (W.take (n + 1)) = nv (W.take n) + B ^ n * W[n] := nv_take_succ W n (by omega)
  have h1 : nv (W.take (n + 2)) = nv (W.take (n + 1)) + B ^ (n + 1) * W[n + 1] := nv_take_succ W (n + 1) (by omega)
  have h2 : nv (W.take (n + 3)) = nv (W.take (n + 2)) + B ^ (n + 2) * W[n + 2] := nv_take_succ W (n + 2) (by omega)
  rw [e] at h2
  rw [h2, h1, h0, show B ^ (n + 2) = B ^ n * B * B by rw [Nat.pow_succ, Nat.pow_succ], show B ^ (n + 1) = B ^ n * B from Nat.pow_succ ..]
  generalize W[n] = x0
  generalize W[n + 1] = x1
  generalize W[n + 2] = x2
  generalize B ^ n = q
  simp only [Nat.mul_add]
  have e1 : q * B * B * x2 = q * (x2 * (B * B)) := by ac_rfl
  have e2 : q * B * x1 = q * (x1 * B) := by ac_rfl
  rw [e1, e2]
  omega
theorem nv_top2 {V : List Nat} {n : Nat} (hV : V.length = n + 2) : nv V = nv (V.take n) + B ^ n * (V[n + 1] * B + V[n]) := by
  have e : V.take (n + 2) = V := List.take_of_length_le (by omega)
  have h0 := nv_take_succ V n (by omega)
  have h1 := nv_take_succ V (n + 1) (by omega)
  rw [show n + 1 + 1 = n + 2 from rfl, e, Nat.pow_succ] at h1
  rw [h1, h0]
  generalize V[n] = x0
  generalize V[n + 1] = x1
  generalize B ^ n = q
  simp only [Nat.mul_add]
  have e2 : q * B * x1 = q * (x1 * B) := by ac_rfl
  rw [e2]
  omega

/-- The plain law of the estimate. -/
theorem est_law {b Q u2 u1 u0 v1 v0 lw lv W V : Nat} (hb : 2 ≤ b) (_hQ : 0 < Q) (eW : W = lw + Q * (u2 * (b * b) + u1 * b + u0)) (eV : V = lv + Q * (v1 * b + v0)) (lW : lw < Q) (lV : lv < Q)
    (_d2 : u2 < b) (d1 : u1 < b) (f0 : v0 < b) (hn : b ≤ 2 * v1) (hlt : W < V * b) : u2 ≤ v1 ∧ W / V ≤ estB b u2 u1 u0 v1 v0 ∧ estB b u2 u1 u0 v1 v0 ≤ W / V + 1 := by
  have hv1 : 0 < v1 := by omega
  have hp : 0 < v1 * b := Nat.mul_pos hv1 (by omega)
  have hVpos : 0 < V := by
    have : Q * 1 ≤ Q * (v1 * b + v0) := Nat.mul_le_mul_left _ (by omega)
    omega
  obtain ⟨v2, hv2⟩ : ∃ v2, v1 * b + v0 = v2 := ⟨_, rfl⟩
  obtain ⟨u3, hu3⟩ : ∃ u3, u2 * (b * b) + u1 * b + u0 = u3 := ⟨_, rfl⟩
  have hest : estB b u2 u1 u0 v1 v0 = min (u3 / v2) (b - 1) := by unfold estB; rw [hv2, hu3]
  rw [hest]
  rw [hv2] at eV
  rw [hu3] at eW
  have hU3 : u3 < (v2 + 1) * b := by
    have : Q * u3 < Q * ((v2 + 1) * b) := by
      have e0 : Q * ((v2 + 1) * b) = (Q * v2 + Q) * b := by rw [← Nat.mul_assoc, Nat.mul_add Q v2 1, Nat.mul_one]
      have e1 : (lv + Q * v2) * b ≤ (Q * v2 + Q) * b := Nat.mul_le_mul_right _ (by omega)
      rw [eV] at hlt
      omega
    exact Nat.lt_of_mul_lt_mul_left this
  refine ⟨?_, ?_, ?_⟩
  · by_cases h : u2 ≤ v1
    · exact h
    · have e1 : (v1 + 1) * (b * b) ≤ u2 * (b * b) := Nat.mul_le_mul_right _ (by omega)
      have e2 : (v2 + 1) * b ≤ (v1 * b + b) * b := Nat.mul_le_mul_right _ (by omega)
      rw [Nat.add_mul, Nat.one_mul] at e1
      have e3 : (v1 * b + b) * b = v1 * (b * b) + b * b := by rw [Nat.add_mul, Nat.mul_assoc]
      omega
  · refine Nat.le_min.2 ⟨?_, ?_⟩
    · have hv2p : 0 < v2 := by omega
      rw [Nat.le_div_iff_mul_le hv2p]
      generalize hq : W / V = q
      have h1 : q * V ≤ W := by rw [← hq]; exact Nat.div_mul_le_self _ _
      have h2 : Q * (q * v2) < Q * (u3 + 1) := by
        have e1 : q * (Q * v2) ≤ q * V := Nat.mul_le_mul_left _ (by omega)
        rw [Nat.mul_left_comm, Nat.mul_add Q, Nat.mul_one]
        omega
      have := Nat.lt_of_mul_lt_mul_left h2
      omega
    · have : W / V < b := by rw [Nat.div_lt_iff_lt_mul hVpos, Nat.mul_comm]; exact hlt
      omega
  · generalize hx : min (u3 / v2) (b - 1) = x
    have hxB : x < b := by omega
    have hxV : x * v2 ≤ u3 := by
      rw [← hx]
      exact Nat.le_trans (Nat.mul_le_mul_right _ (Nat.min_le_left _ _)) (Nat.div_mul_le_self _ _)
    clear hx
    cases x with
    | zero => exact Nat.zero_le _
    | succ y =>
      rw [Nat.add_le_add_iff_right, Nat.le_div_iff_mul_le hVpos]
      have h1 : (y + 1) * V ≤ W + V := by
        have e1 : (y + 1) * V = (y + 1) * lv + Q * ((y + 1) * v2) := by rw [eV, Nat.mul_add, Nat.mul_left_comm]
        have e2 : Q * ((y + 1) * v2) ≤ Q * u3 := Nat.mul_le_mul_left _ hxV
        have e3 : (y + 1) * lv ≤ b * Q := Nat.mul_le_mul (by omega) (by omega)
        have e4 : b * Q ≤ Q * v2 := by
          rw [Nat.mul_comm]
          refine Nat.mul_le_mul_left _ ?_
          have : 1 * b ≤ v1 * b := Nat.mul_le_mul_right _ (by omega)
          omega
        omega
      rw [Nat.succ_mul] at h1
      omega
/-- The estimate is the quotient, or one more. -/
theorem est_ok {W V : List Nat} {n : Nat} (hW : W.length = n + 3) (hV : V.length = n + 2) (hWd : Dig W) (hVd : Dig V) (hn : B ≤ 2 * V[n + 1]) (hlt : nv W < nv V * B) :
    W[n + 2] ≤ V[n + 1] ∧ nv W / nv V ≤ estB B W[n + 2] W[n + 1] W[n] V[n + 1] V[n] ∧ estB B W[n + 2] W[n + 1] W[n] V[n + 1] V[n] ≤ nv W / nv V + 1 :=
  est_law (by rw [B_eq]; decide) (Nat.pow_pos B_pos) (nv_top3 hW) (nv_top2 hV) (nv_take_lt hWd n) (nv_take_lt hVd n) (hWd.get _ _) (hWd.get _ _) (hVd.get _ _) hn hlt

/-- In the making of a remainder: the digits of a number moved to the right by s bits. -/
theorem shr_digit {u : List Nat} {s i : Nat} (hs : s < 32) (hi : i + 1 < u.length) (hd : Dig u) :
    (nv u / 2 ^ s) % B ^ (i + 1) = (nv u / 2 ^ s) % B ^ i + B ^ i * ((u[i + 1] * 4294967296 + u[i]) / 2 ^ s % 4294967296) := by
  have h1 : nv u = nv (u.take i) + B ^ i * (u[i] + B * (u[i + 1] + B * nv (u.drop (i + 2)))) := by
    have e := nv_split u i (by omega)
    rw [List.drop_eq_getElem_cons (show i < u.length by omega), List.drop_eq_getElem_cons (show i + 1 < u.length by omega)] at e
    exact e
  obtain ⟨c, hc⟩ : ∃ c, 2 ^ s * c = 4294967296 := ⟨2 ^ (32 - s), by rw [← Nat.pow_add, show s + (32 - s) = 32 by omega]⟩
  have hp : 0 < 2 ^ s := Nat.two_pow_pos _
  have hlo := nv_take_lt hd i
  have hQ : 0 < B ^ i := Nat.pow_pos B_pos
  have hdiv : nv u / B ^ i = u[i] + B * (u[i + 1] + B * nv (u.drop (i + 2))) := by
    rw [h1, Nat.add_mul_div_left _ _ hQ, Nat.div_eq_of_lt hlo, Nat.zero_add]
  rw [Nat.pow_succ, Nat.mod_mul, Nat.div_div_eq_div_mul, Nat.mul_comm (2 ^ s), ← Nat.div_div_eq_div_mul, hdiv]
  have e : u[i] + B * (u[i + 1] + B * nv (u.drop (i + 2))) = (u[i + 1] * 4294967296 + u[i]) + 2 ^ s * (B * (c * nv (u.drop (i + 2)))) := by
    have e1 : 2 ^ s * (B * (c * nv (u.drop (i + 2)))) = B * (B * nv (u.drop (i + 2))) := by
      rw [Nat.mul_left_comm, ← Nat.mul_assoc (2 ^ s), hc, ← B_eq]
    rw [e1, Nat.mul_add, B_eq]
    omega
  rw [e, Nat.add_mul_div_left _ _ hp, Nat.add_mul_mod_self_left, ← B_eq]

/-- In the making of a remainder: i digits done. -/
def ShrInv (u o : List Nat) (s n i : Nat) : Prop := o.length = n ∧ Dig o ∧ nv (o.take i) = (nv u / 2 ^ s) % B ^ i
theorem ShrInv.start (u : List Nat) (s n : Nat) : ShrInv u (List.replicate n 0) s n 0 := ⟨by simp, Dig.zeros _, by simp [nv, Nat.mod_one]⟩
theorem ShrInv.step {u o : List Nat} {s n i x y : Nat} (h : ShrInv u o s n i) (hi : i < n) (hs : s < 32) (hu : i + 1 < u.length) (hd : Dig u) (hx : u[i + 1] = x) (hy : u[i] = y) : ShrInv u (o.set i ((x * 4294967296 + y) / 2 ^ s % 4294967296)) s n (i + 1) := by
  obtain ⟨h1, h2, h3⟩ := h
  refine ⟨by simpa using h1, h2.set _ _ (by rw [B_eq]; exact Nat.mod_lt _ (by decide)), ?_⟩
  rw [take_set_succ o i _ (by omega), nv_snoc, h3, shr_digit hs hu hd, hx, hy, List.length_take, Nat.min_eq_left (by omega)]
theorem ShrInv.done {u o : List Nat} {s n : Nat} (h : ShrInv u o s n n) (hlt : nv u / 2 ^ s < B ^ n) : nv o = nv u / 2 ^ s := by
  obtain ⟨h1, h2, h3⟩ := h
  rw [List.take_of_length_le (by omega), Nat.mod_eq_of_lt hlt] at h3
  exact h3

/-- In the long division: k digits of the quotient are still to come. N: the dividend, V: the divisor, both moved. -/
def DivInv (N : Nat) (V U Q : List Nat) (k : Nat) : Prop := Dig U ∧ Dig Q ∧ nv (U.drop k) < nv V ∧ nv U + nv V * (B ^ k * nv (Q.drop k)) = N
theorem nv_drop_eq {U : List Nat} {j : Nat} (h : j < U.length) : nv (U.drop j) = U[j] + B * nv (U.drop (j + 1)) := by
  rw [List.drop_eq_getElem_cons h]; rfl
theorem DivInv.win {N : Nat} {V U Q : List Nat} {j n : Nat} (h : DivInv N V U Q (j + 1)) (hj : j + (n + 1) ≤ U.length) (hV : V.length = n) (hVd : Dig V) :
    ((U.drop j).take (n + 1)).length = n + 1 ∧ Dig ((U.drop j).take (n + 1)) ∧ nv ((U.drop j).take (n + 1)) < nv V * B ∧ nv (U.drop (j + (n + 1))) = 0 ∧ U = U.take j ++ (U.drop j).take (n + 1) ++ U.drop (j + (n + 1)) ∧ nv U = nv (U.take j) + B ^ j * nv ((U.drop j).take (n + 1)) ∧ (U.take j).length = j := by
  obtain ⟨h1, h2, h3, h4⟩ := h
  have e := nv_drop_eq (show j < U.length by omega)
  have hd := h1.get j (by omega)
  have hVl := nv_lt hVd
  rw [hV] at hVl
  have hlt : nv (U.drop j) < nv V * B := by
    rw [e]
    have : B * (nv (U.drop (j + 1)) + 1) ≤ B * nv V := Nat.mul_le_mul_left _ h3
    rw [Nat.mul_add, Nat.mul_one] at this
    rw [Nat.mul_comm (nv V)]
    omega
  have hlt2 : nv (U.drop j) < B ^ (n + 1) := by
    rw [Nat.pow_succ]
    exact Nat.lt_of_lt_of_le hlt (Nat.mul_le_mul_right _ (Nat.le_of_lt hVl))
  have ht := nv_take_of_lt hlt2
  have hsp := nv_split (U.drop j) (n + 1) (by simp; omega)
  rw [List.drop_drop] at hsp
  have hR : nv (U.drop (j + (n + 1))) = 0 := by
    by_cases h0 : nv (U.drop (j + (n + 1))) = 0
    · exact h0
    · have : B ^ (n + 1) * 1 ≤ B ^ (n + 1) * nv (U.drop (j + (n + 1))) := Nat.mul_le_mul_left _ (by omega)
      omega
  refine ⟨by simp; omega, (h1.drop j).take _, by rw [ht]; exact hlt, hR, ?_, ?_, by simp; omega⟩
  · rw [List.append_assoc]
    conv => lhs; rw [← List.take_append_drop j U]
    congr 1
    rw [← List.drop_drop, List.take_append_drop]
  · rw [ht]; exact nv_split U j (by omega)
theorem DivInv.next {N : Nat} {V U Q W' : List Nat} {j n : Nat} (h : DivInv N V U Q (j + 1)) (hj : j + (n + 1) ≤ U.length) (hjq : j < Q.length) (hV : V.length = n) (hVd : Dig V) (hW' : Dig W') (hl : W'.length = n + 1)
    (heq : nv W' = nv ((U.drop j).take (n + 1)) % nv V) : DivInv N V (U.take j ++ W' ++ U.drop (j + (n + 1))) (Q.set j (nv ((U.drop j).take (n + 1)) / nv V)) j ∧ (U.take j ++ W' ++ U.drop (j + (n + 1))).length = U.length := by
  obtain ⟨w1, w2, w3, w4, w5, w6, w7⟩ := h.win hj hV hVd
  obtain ⟨h1, h2, h3, h4⟩ := h
  have hVp : 0 < nv V := by omega
  have hq : nv ((U.drop j).take (n + 1)) / nv V < B := by rw [Nat.div_lt_iff_lt_mul hVp, Nat.mul_comm]; exact w3
  have hdr : (U.take j ++ W' ++ U.drop (j + (n + 1))).drop j = W' ++ U.drop (j + (n + 1)) := by
    rw [List.append_assoc, List.drop_append_of_le_length (by omega), List.drop_of_length_le (by omega), List.nil_append]
  have hnd : nv ((U.take j ++ W' ++ U.drop (j + (n + 1))).drop j) = nv W' := by rw [hdr, nv_append, w4]; simp
  have hnu : nv (U.take j ++ W' ++ U.drop (j + (n + 1))) = nv (U.take j) + B ^ j * nv W' := by
    rw [List.append_assoc, nv_append, nv_append, w4, w7]; simp
  refine ⟨⟨((h1.take j).append hW').append (h1.drop _), h2.set _ _ hq, ?_, ?_⟩, by simp; omega⟩
  · rw [hnd, heq]; exact Nat.mod_lt _ hVp
  · have hQ : nv ((Q.set j (nv ((U.drop j).take (n + 1)) / nv V)).drop j) = nv ((U.drop j).take (n + 1)) / nv V + B * nv (Q.drop (j + 1)) := by
      rw [nv_drop_eq (by simpa using hjq), List.getElem_set_self, List.drop_set_of_lt (by omega)]
    rw [hnu, hQ, heq]
    rw [w6] at h4
    rw [Nat.pow_succ] at h4
    have e := Nat.div_add_mod (nv ((U.drop j).take (n + 1))) (nv V)
    generalize nv ((U.drop j).take (n + 1)) / nv V = q at *
    generalize nv ((U.drop j).take (n + 1)) % nv V = r at *
    generalize nv ((U.drop j).take (n + 1)) = x at *
    generalize nv (Q.drop (j + 1)) = y at *
    generalize B ^ j = p at *
    have e1 : nv V * (p * (q + B * y)) = p * (nv V * q) + nv V * (p * B * y) := by
      rw [Nat.mul_add, Nat.mul_add, Nat.mul_left_comm (nv V) p q, Nat.mul_assoc p B y]
    have e2 : p * x = p * (nv V * q) + p * r := by rw [← e, Nat.mul_add]
    omega
theorem DivInv.done {N a b s : Nat} {V U Q : List Nat} (h : DivInv N V U Q 0) (hN : N = a * 2 ^ s) (hV : nv V = b * 2 ^ s) : nv Q = a / b ∧ nv U / 2 ^ s = a % b ∧ nv U < nv V := by
  obtain ⟨h1, h2, h3, h4⟩ := h
  simp only [List.drop_zero, Nat.pow_zero, Nat.one_mul] at h3 h4
  have hp : 0 < 2 ^ s := Nat.two_pow_pos s
  rw [hV] at h3 h4
  rw [hN] at h4
  have e : nv U = 2 ^ s * (nv U / 2 ^ s) := by
    have hm : nv U % 2 ^ s = 0 := by
      have : (nv U + b * 2 ^ s * nv Q) % 2 ^ s = 0 := by rw [h4]; exact Nat.mul_mod_left _ _
      rw [Nat.mul_right_comm, Nat.add_mul_mod_self_right] at this
      exact this
    have := Nat.div_add_mod (nv U) (2 ^ s)
    omega
  have hr : nv U / 2 ^ s < b := by rw [Nat.div_lt_iff_lt_mul hp]; exact h3
  have hsum : a = b * nv Q + nv U / 2 ^ s := by
    have : a * 2 ^ s = (b * nv Q + nv U / 2 ^ s) * 2 ^ s := by
      have e2 : b * nv Q * 2 ^ s = b * 2 ^ s * nv Q := Nat.mul_right_comm _ _ _
      rw [← h4, Nat.add_mul, e2, Nat.mul_comm (nv U / 2 ^ s)]
      omega
    exact Nat.eq_of_mul_eq_mul_right hp this
  have hb : 0 < b := Nat.lt_of_le_of_lt (Nat.zero_le _) hr
  refine ⟨?_, ?_, by rw [hV]; exact h3⟩
  · conv => rhs; rw [hsum, Nat.mul_add_div hb, Nat.div_eq_of_lt hr, Nat.add_zero]
  · conv => rhs; rw [hsum, Nat.mul_add_mod, Nat.mod_eq_of_lt hr]
theorem DivInv.start {a s n m : Nat} {V U : List Nat} (hU : Dig U) (hUl : U.length = m + 1 + n) (hn : 0 < n) (hUv : nv U = a * 2 ^ s) (htop : U.getD (m + n) 0 < 2 ^ s) (hs : s < 32) (hV : V.length = n) (hVt : B ≤ 2 * V.getD (n - 1) 0) :
    DivInv (a * 2 ^ s) V U (List.replicate (m + 1) 0) (m + 1) := by
  refine ⟨hU, Dig.zeros _, ?_, ?_⟩
  · have h1 : (U.drop (m + 1)).length = n := by simp; omega
    have h2 := nv_split (U.drop (m + 1)) (n - 1) (by omega)
    have h3 := nv_split V (n - 1) (by omega)
    have h4 := nv_take_lt (hU.drop (m + 1)) (n - 1)
    have e1 : (U.drop (m + 1)).drop (n - 1) = [U.getD (m + n) 0] := by
      rw [List.drop_drop, List.drop_eq_getElem_cons (by omega), List.drop_of_length_le (by omega), getD_of_lt (by omega)]
      congr 2; omega
    have e2 : V.drop (n - 1) = [V.getD (n - 1) 0] := by
      rw [List.drop_eq_getElem_cons (by omega), List.drop_of_length_le (by omega), getD_of_lt (by omega)]
    rw [e1] at h2
    rw [e2] at h3
    simp only [nv, Nat.mul_zero, Nat.add_zero] at h2 h3
    have hp : (2 : Nat) ^ s ≤ 2 ^ 31 := Nat.pow_le_pow_right (by omega) (by omega)
    rw [B_eq] at hVt
    have : B ^ (n - 1) * (U.getD (m + n) 0 + 1) ≤ B ^ (n - 1) * V.getD (n - 1) 0 := Nat.mul_le_mul_left _ (by omega)
    rw [Nat.mul_add, Nat.mul_one] at this
    omega
  · rw [List.drop_of_length_le (by simp)]; simpa [nv] using hUv
/-- The digit that 'guess' and 'reduce' find. -/
theorem digit_found {x c W V W' : Nat} {e : Nat} (hV : 0 < V) (h1 : W / V ≤ x) (h2 : x ≤ W / V + 1) (hW' : (c = 0 ∧ W' + x * V = W) ∨ (c = 1 ∧ W < x * V ∧ W' + x * V = W + e)) :
    (c = 0 → x = W / V ∧ W' = W % V) ∧ (c = 1 → 1 ≤ x ∧ x - 1 = W / V ∧ W' + V = W % V + e) := by
  have hd := Nat.div_add_mod W V
  have hm := Nat.mod_lt W hV
  generalize W / V = q at *
  generalize W % V = r at *
  refine ⟨fun h => ?_, fun h => ?_⟩
  · rcases hW' with ⟨_, h3⟩ | ⟨h4, _⟩
    · rcases (by omega : x = q ∨ x = q + 1) with rfl | rfl
      · refine ⟨rfl, ?_⟩; rw [Nat.mul_comm] at hd; omega
      · rw [Nat.succ_mul, Nat.mul_comm q] at h3; omega
    · omega
  · rcases hW' with ⟨h4, _⟩ | ⟨_, h3, h5⟩
    · omega
    · rcases (by omega : x = q ∨ x = q + 1) with rfl | rfl
      · rw [Nat.mul_comm] at hd; omega
      · refine ⟨by omega, by omega, ?_⟩
        rw [Nat.succ_mul, Nat.mul_comm q] at h5; omega
theorem div_norm {b V : List Nat} {n t s : Nat} (hb : Dig b) (hbl : b.length = n) (hn : 0 < n) (ht : b.getD (n - 1) 0 = t) (hs : s < 32) (h1 : 4294967296 ≤ 2 * (t * 2 ^ s)) (h2 : t * 2 ^ s < 4294967296) (hV : Canon V (nv b * 2 ^ s)) : V.length = n ∧ B ≤ 2 * V.getD (n - 1) 0 := by
  have h3 := nv_split b (n - 1) (by omega)
  have h4 := nv_take_lt hb (n - 1)
  have e2 : b.drop (n - 1) = [t] := by
    rw [List.drop_eq_getElem_cons (by omega), List.drop_of_length_le (by omega), ← ht, getD_of_lt (by omega)]
  rw [e2] at h3
  simp only [nv, Nat.mul_zero, Nat.add_zero] at h3
  have hpow : B ^ n = B ^ (n - 1) * B := by rw [← Nat.pow_succ]; congr 1; omega
  have hQ : 0 < B ^ (n - 1) := Nat.pow_pos B_pos
  have hc : 2 ^ s * 2 ^ (32 - s) = 4294967296 := by rw [← Nat.pow_add, show s + (32 - s) = 32 by omega]
  have hp : 0 < 2 ^ s := Nat.two_pow_pos _
  have htt : (t + 1) * 2 ^ s ≤ B := by
    have : t < 2 ^ (32 - s) := by
      have : 2 ^ s * t < 2 ^ s * 2 ^ (32 - s) := by rw [hc, Nat.mul_comm]; exact h2
      exact Nat.lt_of_mul_lt_mul_left this
    have : 2 ^ s * (t + 1) ≤ 2 ^ s * 2 ^ (32 - s) := Nat.mul_le_mul_left _ this
    rw [hc, Nat.mul_comm] at this
    rw [B_eq]; exact this
  have hN : nv b * 2 ^ s = nv (b.take (n - 1)) * 2 ^ s + B ^ (n - 1) * (t * 2 ^ s) := by rw [h3, Nat.add_mul, Nat.mul_assoc]
  have hup : nv b * 2 ^ s < B ^ n := by
    have e1 : nv (b.take (n - 1)) * 2 ^ s < B ^ (n - 1) * 2 ^ s := Nat.mul_lt_mul_of_pos_right h4 hp
    have e3 : B ^ (n - 1) * ((t + 1) * 2 ^ s) ≤ B ^ (n - 1) * B := Nat.mul_le_mul_left _ htt
    rw [Nat.add_mul, Nat.one_mul, Nat.mul_add] at e3
    rw [hpow, hN]; omega
  have hlo : B ^ (n - 1) * (t * 2 ^ s) ≤ nv b * 2 ^ s := by rw [hN]; omega
  have hl1 : V.length ≤ n := by rw [hV.len]; exact lg_le.2 hup
  have hl2 : ¬ V.length ≤ n - 1 := by
    rw [hV.len, lg_le]
    have : B ^ (n - 1) * 1 ≤ B ^ (n - 1) * (t * 2 ^ s) := Nat.mul_le_mul_left _ (by omega)
    omega
  have hl : V.length = n := by omega
  refine ⟨hl, ?_⟩
  have g3 := nv_split V (n - 1) (by omega)
  have g4 := nv_take_lt hV.1 (n - 1)
  have g2 : V.drop (n - 1) = [V.getD (n - 1) 0] := by
    rw [List.drop_eq_getElem_cons (by omega), List.drop_of_length_le (by omega), getD_of_lt (by omega)]
  rw [g2] at g3
  simp only [nv, Nat.mul_zero, Nat.add_zero] at g3
  rw [hV.2.2] at g3
  have : B ^ (n - 1) * (t * 2 ^ s) < B ^ (n - 1) * (V.getD (n - 1) 0 + 1) := by rw [Nat.mul_add, Nat.mul_one]; omega
  have := Nat.lt_of_mul_lt_mul_left this
  rw [B_eq]; omega
theorem est_ok2 {W V : List Nat} {n : Nat} (hW : W.length = n + 1) (hV : V.length = n) (hn2 : 2 ≤ n) (hWd : Dig W) (hVd : Dig V) (hn : B ≤ 2 * V.getD (n - 1) 0) (hlt : nv W < nv V * B) :
    W.getD n 0 ≤ V.getD (n - 1) 0 ∧ nv W / nv V ≤ estB B (W.getD n 0) (W.getD (n - 1) 0) (W.getD (n - 2) 0) (V.getD (n - 1) 0) (V.getD (n - 2) 0) ∧ estB B (W.getD n 0) (W.getD (n - 1) 0) (W.getD (n - 2) 0) (V.getD (n - 1) 0) (V.getD (n - 2) 0) ≤ nv W / nv V + 1 := by
  obtain ⟨p, rfl⟩ : ∃ p, n = p + 2 := ⟨n - 2, by omega⟩
  rw [show p + 2 - 1 = p + 1 from rfl, show p + 2 - 2 = p from rfl] at *
  rw [getD_of_lt (l := V) (i := p + 1) (by omega)] at hn
  rw [getD_of_lt (l := W) (i := p + 2) (by omega), getD_of_lt (l := W) (i := p + 1) (by omega), getD_of_lt (l := W) (i := p) (by omega), getD_of_lt (l := V) (i := p + 1) (by omega), getD_of_lt (l := V) (i := p) (by omega)]
  exact est_ok hW hV hWd hVd hn hlt
theorem estB_lt {u2 u1 u0 v1 v0 : Nat} : estB B u2 u1 u0 v1 v0 < 4294967296 := by unfold estB; rw [B_eq]; omega
theorem win_getD {U : List Nat} {j n i : Nat} (hi : i ≤ n) : ((U.drop j).take (n + 1)).getD i 0 = U.getD (j + i) 0 := by
  simp only [List.getD_eq_getElem?_getD, List.getElem?_take_of_lt (Nat.lt_succ_of_le hi), List.getElem?_drop]
theorem restored {V o o2 : List Nat} {W n c : Nat} (hVd : Dig V) (hV : V.length = n) (hV0 : 0 < nv V) (h1 : nv o + nv V = W % nv V + B ^ (n + 1)) (h2 : nv o2 + B ^ (n + 1) * c = nv o + nv V) (hc : c ≤ 1) (ho : Dig o2) (hl : o2.length = n + 1) : nv o2 = W % nv V := by
  have h3 := nv_lt ho
  rw [hl] at h3
  have h4 := Nat.mod_lt W hV0
  have h5 := nv_lt hVd
  rw [hV] at h5
  have h6 : B ^ n ≤ B ^ (n + 1) := Nat.pow_le_pow_right B_pos (by omega)
  rcases (by omega : c = 0 ∨ c = 1) with rfl | rfl
  · omega
  · omega
end Go.Lim

namespace Go.Proofs.YtjbhcniiioepgaaGreat
open Go.RowKit Go.Rep Go.Lim

theorem wrap32_nat (x : Nat) (h : x < 4294967296) : IntKind.u32.wrap (x : Int) = x := by rw [IntKind.wrap_u32]; omega
theorem bits_or_u32_nat (a b : Nat) (ha : a < 4294967296) (hb : b < 4294967296) : bits .or .u32 (a : Int) (b : Int) = ((a ||| b : Nat) : Int) := by
  have hx : a ||| b < 2 ^ 32 := Nat.or_lt_two_pow (by omega) (by omega)
  have h1 : (BitVec.ofInt 32 (a : Int)).toNat = a := by
    rw [BitVec.ofInt_natCast, BitVec.toNat_ofNat]; exact Nat.mod_eq_of_lt (by omega)
  have h2 : (BitVec.ofInt 32 (b : Int)).toNat = b := by
    rw [BitVec.ofInt_natCast, BitVec.toNat_ofNat]; exact Nat.mod_eq_of_lt (by omega)
  show IntKind.u32.wrap ((BitVec.ofInt 32 (a : Int) ||| BitVec.ofInt 32 (b : Int)).toNat : Int) = _
  rw [BitVec.toNat_or, h1, h2, IntKind.wrap_u32]
  omega
theorem bits_xor_u32_nat (a b : Nat) (ha : a < 4294967296) (hb : b < 4294967296) : bits .xor .u32 (a : Int) (b : Int) = ((a ^^^ b : Nat) : Int) := by
  have hx : a ^^^ b < 2 ^ 32 := Nat.xor_lt_two_pow (by omega) (by omega)
  have h1 : (BitVec.ofInt 32 (a : Int)).toNat = a := by
    rw [BitVec.ofInt_natCast, BitVec.toNat_ofNat]; exact Nat.mod_eq_of_lt (by omega)
  have h2 : (BitVec.ofInt 32 (b : Int)).toNat = b := by
    rw [BitVec.ofInt_natCast, BitVec.toNat_ofNat]; exact Nat.mod_eq_of_lt (by omega)
  show IntKind.u32.wrap ((BitVec.ofInt 32 (a : Int) ^^^ BitVec.ofInt 32 (b : Int)).toNat : Int) = _
  rw [BitVec.toNat_xor, h1, h2, IntKind.wrap_u32]
  omega
theorem bits_and_u32_nat (a b : Nat) (ha : a < 4294967296) (hb : b < 4294967296) : bits .and .u32 (a : Int) (b : Int) = ((a &&& b : Nat) : Int) := by
  have hx : a &&& b < 2 ^ 32 := Nat.and_lt_two_pow _ (by omega)
  have h1 : (BitVec.ofInt 32 (a : Int)).toNat = a := by
    rw [BitVec.ofInt_natCast, BitVec.toNat_ofNat]; exact Nat.mod_eq_of_lt (by omega)
  have h2 : (BitVec.ofInt 32 (b : Int)).toNat = b := by
    rw [BitVec.ofInt_natCast, BitVec.toNat_ofNat]; exact Nat.mod_eq_of_lt (by omega)
  show IntKind.u32.wrap ((BitVec.ofInt 32 (a : Int) &&& BitVec.ofInt 32 (b : Int)).toNat : Int) = _
  rw [BitVec.toNat_and, h1, h2, IntKind.wrap_u32]
  omega

theorem top_bit (n : Nat) (h : n < 4294967296) : n / 2147483648 = (n.testBit 31).toNat := by
  rw [Nat.testBit_eq_decide_div_mod_eq, show (2 : Nat) ^ 31 = 2147483648 from rfl]
  by_cases h1 : n / 2147483648 % 2 = 1
  · rw [decide_eq_true h1]; simp; omega
  · rw [decide_eq_false h1]; simp; omega
theorem top_not (n : Nat) : (4294967295 ^^^ n).testBit 31 = !n.testBit 31 := by
  rw [Nat.testBit_xor, show (4294967295 : Nat) = 2 ^ 32 - 1 from rfl, Nat.testBit_two_pow_sub_one]
  cases n.testBit 31 <;> rfl
/-- The borrow as the library computes it. -/
theorem borrow_eq (x y d c : Nat) (hx : x < 4294967296) (hy : y < 4294967296) (hc : c ≤ 1) (hd : d = subD x y c) :
    (((4294967295 ^^^ x) &&& y) ||| ((4294967295 ^^^ (x ^^^ y)) &&& d)) / 2147483648 = subC x y c := by
  have hdl : d < 4294967296 := by rw [hd]; unfold subD; omega
  have h1 : (4294967295 ^^^ x) &&& y < 4294967296 := Nat.and_lt_two_pow (n := 32) _ hy
  have h2 : (4294967295 ^^^ (x ^^^ y)) &&& d < 4294967296 := Nat.and_lt_two_pow (n := 32) _ hdl
  rw [top_bit _ (Nat.or_lt_two_pow (n := 32) h1 h2), Nat.testBit_or, Nat.testBit_and, Nat.testBit_and, top_not x, top_not, Nat.testBit_xor]
  have e1 := top_bit x hx
  have e2 := top_bit y hy
  have e3 := top_bit d hdl
  rw [hd] at e3 ⊢
  unfold subC
  unfold subD at *
  cases hbx : x.testBit 31 <;> cases hby : y.testBit 31 <;> cases hbd : ((x + 4294967296 - y - c) % 4294967296).testBit 31 <;> simp [hbx, hby, hbd] at e1 e2 e3 ⊢ <;> omega

theorem sub32_any (x y c : Nat) (w : World) (hx : x < 4294967296) (hy : y < 4294967296) (hc : c ≤ 1) :
    Calls Tryz.prog 226 #[.int .u32 x, .int .u32 y, .int .u32 c] w fun e w' => w = w' ∧ e = .returned (.tuple #[.int .u32 (subD x y c : Nat), .int .u32 (subC x y c : Nat)]) := by
  have hb := hid (borrow_eq x y (subD x y c) c hx hy hc rfl)
  go_enter Tryz.func226, Tryz.ntmps226
  go_wp2_with fail
  go_ret2
  refine ⟨rfl, ?_⟩
  have hxy : x ^^^ y < 4294967296 := Nat.xor_lt_two_pow (n := 32) hx hy
  have hn : ∀ n : Nat, n < 4294967296 → 4294967295 ^^^ n < 4294967296 := fun n h => Nat.xor_lt_two_pow (n := 32) (by omega) h
  have hm : IntKind.u32.max = ((4294967295 : Nat) : Int) := rfl
  have hd : ((x : Int) - y - c) % 4294967296 = (subD x y c : Nat) := by unfold subD; omega
  have hdl : subD x y c < 4294967296 := by unfold subD; omega
  rw [hm, hd, bits_xor_u32_nat _ _ (by decide) hx, bits_xor_u32_nat _ _ hx hy, bits_xor_u32_nat _ _ (by decide) hxy, bits_and_u32_nat _ _ (hn _ hx) hy, bits_and_u32_nat _ _ (hn _ hxy) hdl,
    bits_or_u32_nat _ _ (Nat.and_lt_two_pow (n := 32) _ hy) (Nat.and_lt_two_pow (n := 32) _ hdl)]
  have h2 : ((((4294967295 ^^^ x) &&& y ||| (4294967295 ^^^ (x ^^^ y)) &&& subD x y c : Nat) : Int) / 2147483648) = (subC x y c : Nat) := by rw [← hb.out]; rfl
  simp [h2]
end Go.Proofs.YtjbhcniiioepgaaGreat

namespace Go.Lim

/-- The element at place i is from 0 to n - 1 and greater than the one before. -/
def ascAt (l : List Int) (n : Int) (i : Nat) : Bool := decide (0 ≤ l.getD i 0) && decide (l.getD i 0 < n) && (decide (i = 0) || decide (l.getD (i - 1) 0 < l.getD i 0))
def ascB (l : List Int) (n : Int) : Bool := (List.range l.length).all (ascAt l n)
theorem upto_succ {p : Nat → Prop} {i : Nat} (h : ∀ j, j < i → p j) (hi : p i) : ∀ j, j < i + 1 → p j := fun j hj => by
  by_cases hji : j < i
  · exact h j hji
  · obtain rfl : j = i := by omega
    exact hi
theorem all_range_false {n : Nat} {p : Nat → Bool} (i : Nat) (h : i < n) (hp : p i = false) : (List.range n).all p = false := by
  rw [List.all_eq_false]; exact ⟨i, by simpa using h, by simp [hp]⟩
theorem all_range_true {n : Nat} {p : Nat → Bool} (h : ∀ i, i < n → p i = true) : (List.range n).all p = true := by
  rw [List.all_eq_true]; intro i hi; exact h i (by simpa using hi)
theorem all_range_iff {n : Nat} {p : Nat → Bool} : (List.range n).all p = true ↔ ∀ i, i < n → p i = true := by
  rw [List.all_eq_true]; simp
theorem ascAt_eq {l : List Int} {n : Int} {i : Nat} {x y : Int} (hx : l.getD i 0 = x) (hy : l.getD (i - 1) 0 = y) : ascAt l n i = (decide (0 ≤ x) && decide (x < n) && (decide (i = 0) || decide (y < x))) := by
  unfold ascAt; rw [hx, hy]
theorem getD_eq {l : List Int} {i : Nat} (h : i < l.length) : l.getD i 0 = l[i] := by simp [List.getD, h]
/-- Some number is in both lists. -/
def meets (a b : List Int) : Bool := a.any fun x => b.any fun y => x == y
theorem meets_iff {a b : List Int} : meets a b = true ↔ ∃ x, x ∈ a ∧ x ∈ b := by
  simp [meets, List.any_eq_true]
theorem meets_hit {a b : List Int} {i j : Nat} (hi : i < a.length) (hj : j < b.length) (h : a[i] = b[j]) : meets a b = true :=
  meets_iff.2 ⟨a[i], List.getElem_mem _, by rw [h]; exact List.getElem_mem _⟩
theorem meets_none {a b : List Int} (h : ∀ i (hi : i < a.length) j (hj : j < b.length), a[i] ≠ b[j]) : meets a b = false := by
  cases hm : meets a b
  · rfl
  · obtain ⟨x, h1, h2⟩ := meets_iff.1 hm
    obtain ⟨i, hi, rfl⟩ := List.getElem_of_mem h1
    obtain ⟨j, hj, he⟩ := List.getElem_of_mem h2
    exact absurd he.symm (h i hi j hj)
theorem list_eq_of {a b : List Int} (hl : a.length = b.length) (h : ∀ i (hi : i < a.length) (hj : i < b.length), a[i] = b[i]) : a = b := List.ext_getElem hl h
end Go.Lim

namespace Go.Lim

/-- n choose k. -/
def ch : Nat → Nat → Nat
  | _, 0 => 1
  | 0, _ + 1 => 0
  | n + 1, k + 1 => ch n k + ch n (k + 1)
theorem ch_zero (n : Nat) : ch n 0 = 1 := by cases n <;> rfl
theorem ch_gt : ∀ (n k : Nat), n < k → ch n k = 0
  | _, 0, h => by omega
  | 0, _ + 1, _ => rfl
  | n + 1, k + 1, h => by rw [ch, ch_gt n k (by omega), ch_gt n (k + 1) (by omega)]
theorem ch_self : ∀ n, ch n n = 1
  | 0 => rfl
  | n + 1 => by rw [ch, ch_self n, ch_gt n (n + 1) (by omega)]
theorem ch_mul : ∀ (n k : Nat), (k + 1) * ch (n + 1) (k + 1) = (n + 1) * ch n k
  | 0, 0 => rfl
  | 0, k + 1 => by simp [ch]
  | n + 1, 0 => by
    have h := ch_mul n 0
    simp only [ch_zero, Nat.zero_add, Nat.one_mul, Nat.mul_one] at h ⊢
    rw [ch, ch_zero, h]; omega
  | n + 1, k + 1 => by
    have h1 := ch_mul n k
    have h2 := ch_mul n (k + 1)
    have e1 : ch (n + 1 + 1) (k + 1 + 1) = ch (n + 1) (k + 1) + ch (n + 1) (k + 1 + 1) := rfl
    have e2 : ch (n + 1) (k + 1) = ch n k + ch n (k + 1) := rfl
    rw [e1, Nat.mul_add, h2]
    have e3 : (k + 1 + 1) * ch (n + 1) (k + 1) = (k + 1) * ch (n + 1) (k + 1) + ch (n + 1) (k + 1) := Nat.succ_mul _ _
    rw [e3, h1]
    have e4 : (n + 1 + 1) * ch (n + 1) (k + 1) = (n + 1) * ch (n + 1) (k + 1) + ch (n + 1) (k + 1) := Nat.succ_mul _ _
    rw [e4, e2, Nat.mul_add]
    omega
theorem ch_le : ∀ (n k : Nat), ch n k ≤ 2 ^ n
  | n, 0 => by rw [ch_zero]; exact Nat.one_le_two_pow
  | 0, _ + 1 => by simp [ch]
  | n + 1, k + 1 => by
    have h1 := ch_le n k
    have h2 := ch_le n (k + 1)
    rw [ch, Nat.pow_succ]; omega
theorem ch_pos : ∀ (n k : Nat), k ≤ n → 0 < ch n k
  | n, 0, _ => by rw [ch_zero]; exact Nat.one_pos
  | 0, _ + 1, h => by omega
  | n + 1, k + 1, h => by have := ch_pos n k (by omega); rw [ch]; omega
theorem ch_lt64 {n k : Nat} (h : n ≤ 64) : ch n k < B ^ 3 := by
  rw [B_two]
  have := ch_le n k
  have h2 : (2 : Nat) ^ n ≤ 2 ^ 64 := Nat.pow_le_pow_right (by decide) h
  have h3 : (2 : Nat) ^ 64 < 2 ^ (32 * 3) := Nat.pow_lt_pow_right (by decide) (by decide)
  omega
theorem lg_ch {n k : Nat} (h : n ≤ 64) : lg (ch n k) ≤ 3 := lg_le.2 (ch_lt64 h)
/-- One step of the program's product. -/
theorem ch_step (m i : Nat) (h : 0 < i) : ch (m + (i - 1)) (i - 1) * (m + i) / i = ch (m + i) i := by
  obtain ⟨j, rfl⟩ : ∃ j, i = j + 1 := ⟨i - 1, by omega⟩
  have e := ch_mul (m + j) j
  rw [show j + 1 - 1 = j from rfl, Nat.mul_comm, show m + (j + 1) = m + j + 1 from rfl, ← e, Nat.mul_div_cancel_left _ h]
/-- The reference's row of Pascal's triangle, from place j + 1 on already of the next row. -/
def PasInv (r : List Nat) (k i j : Nat) : Prop := r.length = k + 1 ∧ ∀ p (_ : p < r.length), r[p] = if j < p then ch (i + 1) p else ch i p
theorem PasInv.start (k : Nat) : PasInv ((List.replicate (k + 1) 0).set 0 1) k 0 k := by
  refine ⟨by simp, fun p h => ?_⟩
  simp at h
  rw [if_neg (by omega), List.getElem_set]
  split
  · subst_vars; rw [ch_zero]
  · cases p with
    | zero => omega
    | succ p => simp [ch]
theorem PasInv.step {r : List Nat} {k i j : Nat} (h : PasInv r k i j) (h0 : 0 < j) (hj : j ≤ k) {x y : Nat} (hx : r[j]'(by rw [h.1]; omega) = x) (hy : r[j - 1]'(by rw [h.1]; omega) = y) : PasInv (r.set j (x + y)) k i (j - 1) := by
  obtain ⟨h1, h2⟩ := h
  refine ⟨by simpa using h1, fun p hp => ?_⟩
  have e1 := h2 j (by omega)
  have e2 := h2 (j - 1) (by omega)
  rw [if_neg (by omega), hx] at e1
  rw [if_neg (by omega), hy] at e2
  rw [List.getElem_set]
  by_cases hjp : j = p
  · subst hjp
    rw [if_pos rfl, if_pos (by omega), e1, e2]
    obtain ⟨q, rfl⟩ : ∃ q, j = q + 1 := ⟨j - 1, by omega⟩
    rw [ch]; simp [Nat.add_comm]
  · rw [if_neg hjp, h2 p (by simpa using hp)]
    by_cases hpj : j < p
    · rw [if_pos hpj, if_pos (by omega)]
    · rw [if_neg hpj, if_neg (by omega)]
theorem PasInv.next {r : List Nat} {k i : Nat} (h : PasInv r k i 0) : PasInv r k (i + 1) k := by
  refine ⟨h.1, fun p hp => ?_⟩
  rw [h.2 p hp, if_neg (by have := h.1; omega : ¬ k < p)]
  split
  · rfl
  · obtain rfl : p = 0 := by omega
    rw [ch_zero, ch_zero]
theorem PasInv.done {r : List Nat} {k i : Nat} (h : PasInv r k i k) (hk : k < r.length) : r[k] = ch i k := by
  rw [h.2 k hk, if_neg (by omega)]
theorem PasInv.le {r : List Nat} {k i j : Nat} (h : PasInv r k i j) (p : Nat) (hp : p < r.length) (hi : i < 64) : lg r[p] ≤ 3 := by
  rw [h.2 p hp]; split
  · exact lg_ch (by omega)
  · exact lg_ch (by omega)
end Go.Lim

namespace Go.Lim

abbrev Leaf := List Int × List Int
/-- The sides of the numbers 0 to n - 1 in a leaf, with the first numbers of each list alone. -/
def sideL (n : Nat) (I O : List Int) : List Int := (List.range n).map fun (i : Nat) => if (i : Int) ∈ I then 1 else if (i : Int) ∈ O then 2 else 0
theorem sideL_length (n : Nat) (I O : List Int) : (sideL n I O).length = n := by simp [sideL]
theorem sideL_get (n : Nat) (I O : List Int) (p : Nat) (h : p < (sideL n I O).length) : (sideL n I O)[p] = if (p : Int) ∈ I then 1 else if (p : Int) ∈ O then 2 else 0 := by simp [sideL]
theorem sideL_zero (n : Nat) : sideL n [] [] = List.replicate n 0 := by
  apply List.ext_getElem
  · simp [sideL]
  · intro i h1 h2; rw [sideL_get]; simp
theorem sideL_in {n : Nat} {I : List Int} {k : Nat} (hk : k < I.length) {x : Nat} (hx : I[k] = (x : Int)) : (sideL n (I.take k) []).set x 1 = sideL n (I.take (k + 1)) [] := by
  apply List.ext_getElem
  · simp [sideL]
  · intro i h1 h2
    rw [List.getElem_set, sideL_get, sideL_get, List.take_succ_eq_append_getElem hk, hx]
    by_cases h : x = i
    · subst h; simp
    · have : ¬ (i : Int) = (x : Int) := by omega
      simp [h, this]
theorem sideL_out {n : Nat} {I O : List Int} {k : Nat} (hk : k < O.length) {x : Nat} (hx : O[k] = (x : Int)) (hI : ¬ (x : Int) ∈ I) : (sideL n I (O.take k)).set x 2 = sideL n I (O.take (k + 1)) := by
  apply List.ext_getElem
  · simp [sideL]
  · intro i h1 h2
    rw [List.getElem_set, sideL_get, sideL_get, List.take_succ_eq_append_getElem hk, hx]
    by_cases h : x = i
    · subst h; simp [hI]
    · have : ¬ (i : Int) = (x : Int) := by omega
      simp [h, this]

theorem ascB_iff {l : List Int} {n : Int} : ascB l n = true ↔ ∀ i, i < l.length → ascAt l n i = true := all_range_iff
theorem ascB_get {l : List Int} {n : Int} (h : ascB l n = true) (i : Nat) (hi : i < l.length) : 0 ≤ l[i] ∧ l[i] < n := by
  have := ascB_iff.1 h i hi
  simp only [ascAt, getD_eq hi, Bool.and_eq_true, decide_eq_true_eq] at this
  exact this.1
theorem ascB_mem {l : List Int} {n : Int} (h : ascB l n = true) {x : Int} (hx : x ∈ l) : 0 ≤ x ∧ x < n := by
  obtain ⟨i, hi, rfl⟩ := List.getElem_of_mem hx
  exact ascB_get h i hi
theorem ascB_step {l : List Int} {n : Int} (h : ascB l n = true) (i : Nat) (hi : i + 1 < l.length) : l[i]'(by omega) < l[i + 1] := by
  have := ascB_iff.1 h (i + 1) hi
  simp only [ascAt, getD_eq hi, Nat.add_sub_cancel, getD_eq (show i < l.length by omega), Bool.and_eq_true, Bool.or_eq_true, decide_eq_true_eq] at this
  rcases this.2 with h | h
  · omega
  · exact h
theorem ascB_lt {l : List Int} {n : Int} (h : ascB l n = true) : ∀ (i j : Nat) (hij : i < j) (hj : j < l.length), l[i]'(by omega) < l[j] := by
  intro i j hij hj
  obtain ⟨d, rfl⟩ : ∃ d, j = i + 1 + d := ⟨j - i - 1, by omega⟩
  induction d with
  | zero => exact ascB_step h i hj
  | succ d ih =>
    have h1 := ih (by omega) (by omega)
    have h2 := ascB_step h (i + 1 + d) hj
    exact Int.lt_trans h1 h2
theorem ascB_length {l : List Int} {n : Nat} (h : ascB l n = true) : l.length ≤ n := by
  have key : ∀ i (hi : i < l.length), (i : Int) ≤ l[i] := by
    intro i
    induction i with
    | zero => intro hi; exact (ascB_get h 0 hi).1
    | succ i ih => intro hi; have h1 := ih (by omega); have h2 := ascB_step h i hi; omega
  rcases Nat.eq_zero_or_pos l.length with h0 | h0
  · omega
  · have h1 := key (l.length - 1) (by omega)
    have h2 := (ascB_get h (l.length - 1) (by omega)).2
    omega

def leafOk (n h : Int) (x : Leaf) : Bool := ascB x.1 n && ascB x.2 n && decide ((x.1.length : Int) ≤ h) && decide ((x.2.length : Int) ≤ n - h) && !meets x.1 x.2
def apartL (x y : Leaf) : Bool := meets x.1 y.2 || meets x.2 y.1
/-- The leaf at place k is well-formed, and apart from those before it. -/
def goodAt (n h : Int) (L : List Leaf) (k : Nat) : Bool := leafOk n h (L.getD k ([], [])) && (List.range k).all fun j => apartL (L.getD k ([], [])) (L.getD j ([], []))
def sumL (n h : Nat) (L : List Leaf) : Nat := (L.map fun x => ch (n - x.1.length - x.2.length) (h - x.1.length)).sum
def coverB (n h : Int) (L : List Leaf) : Bool :=
  decide (1 ≤ n) && decide (n ≤ 64) && decide (0 ≤ h) && decide (h ≤ n) && decide (L.length ≤ 4096) && (List.range L.length).all (goodAt n h L) && decide (sumL n.toNat h.toNat L = ch n.toNat h.toNat)

/-- What the program asks of two lists of sides. -/
def apartS (a b : List Int) : Bool := (List.range a.length).any fun i => (a.getD i 0 + b.getD i 0 == 3) && (a.getD i 0 != 0) && (b.getD i 0 != 0)
theorem any_range_false {n : Nat} {p : Nat → Bool} (h : ∀ i, i < n → p i = false) : (List.range n).any p = false := by
  rw [List.any_eq_false]; intro i hi; simp [h i (by simpa using hi)]
theorem any_range_true {n : Nat} {p : Nat → Bool} (i : Nat) (h : i < n) (hp : p i = true) : (List.range n).any p = true := by
  rw [List.any_eq_true]; exact ⟨i, by simpa using h, hp⟩
theorem apartS_sides {n h : Nat} {x y : Leaf} (hx : leafOk n h x = true) (hy : leafOk n h y = true) : apartS (sideL n x.1 x.2) (sideL n y.1 y.2) = apartL x y := by
  simp only [leafOk, Bool.and_eq_true, Bool.not_eq_true'] at hx hy
  obtain ⟨⟨⟨⟨hx1, hx2⟩, _⟩, _⟩, hx5⟩ := hx
  obtain ⟨⟨⟨⟨hy1, hy2⟩, _⟩, _⟩, hy5⟩ := hy
  rw [Bool.eq_iff_iff]
  unfold apartS apartL
  simp only [List.any_eq_true, List.mem_range, sideL_length, Bool.or_eq_true, meets_iff, Bool.and_eq_true, beq_iff_eq, bne_iff_ne]
  constructor
  · rintro ⟨i, hi, ⟨h1, h2⟩, h3⟩
    rw [getD_eq (by rw [sideL_length]; exact hi), sideL_get] at h1 h2
    rw [getD_eq (by rw [sideL_length]; exact hi), sideL_get] at h1 h3
    by_cases a1 : (i : Int) ∈ x.1 <;> by_cases a2 : (i : Int) ∈ x.2 <;> by_cases a3 : (i : Int) ∈ y.1 <;> by_cases a4 : (i : Int) ∈ y.2 <;> simp [a1, a2, a3, a4] at h1 h2 h3
    all_goals first | exact .inl ⟨i, a1, a4⟩ | exact .inr ⟨i, a2, a3⟩
  · rintro (⟨v, h1, h2⟩ | ⟨v, h1, h2⟩)
    · obtain ⟨hv0, hvn⟩ := ascB_mem hx1 h1
      obtain ⟨i, rfl⟩ := Int.eq_ofNat_of_zero_le hv0
      have hny : ¬ (i : Int) ∈ y.1 := fun h3 => by rw [meets_iff.2 ⟨_, h3, h2⟩] at hy5; simp at hy5
      refine ⟨i, by omega, ?_⟩
      rw [getD_eq (by rw [sideL_length]; omega), getD_eq (by rw [sideL_length]; omega), sideL_get, sideL_get]
      simp [h1, h2, hny]
    · obtain ⟨hv0, hvn⟩ := ascB_mem hx2 h1
      obtain ⟨i, rfl⟩ := Int.eq_ofNat_of_zero_le hv0
      have hnx : ¬ (i : Int) ∈ x.1 := fun h3 => by rw [meets_iff.2 ⟨_, h3, h1⟩] at hx5; simp at hx5
      refine ⟨i, by omega, ?_⟩
      rw [getD_eq (by rw [sideL_length]; omega), getD_eq (by rw [sideL_length]; omega), sideL_get, sideL_get]
      simp [h1, h2, hnx]

theorem sideL_range (n : Nat) (I O : List Int) : ∀ i (h : i < (sideL n I O).length), 0 ≤ (sideL n I O)[i] ∧ (sideL n I O)[i] ≤ 2 := by
  intro i h
  rw [sideL_get]
  split
  · omega
  · split <;> omega
def sidesL (n : Nat) (L : List Leaf) : List (List Int) := L.map fun x => sideL n x.1 x.2
theorem sidesL_length (n : Nat) (L : List Leaf) : (sidesL n L).length = L.length := by simp [sidesL]
theorem sidesL_get (n : Nat) (L : List Leaf) (i : Nat) (h : i < (sidesL n L).length) : (sidesL n L)[i] = sideL n (L[i]'(by simpa [sidesL] using h)).1 (L[i]'(by simpa [sidesL] using h)).2 := by simp [sidesL]
theorem sidesL_take (n : Nat) (L : List Leaf) (k : Nat) (hk : k < L.length) : sidesL n (L.take (k + 1)) = sidesL n (L.take k) ++ [sideL n L[k].1 L[k].2] := by
  simp only [sidesL, List.take_succ_eq_append_getElem hk, List.map_append, List.map_cons, List.map_nil]
theorem sumL_take (n h : Nat) (L : List Leaf) (k : Nat) (hk : k < L.length) : sumL n h (L.take (k + 1)) = sumL n h (L.take k) + ch (n - L[k].1.length - L[k].2.length) (h - L[k].1.length) := by
  simp only [sumL, List.take_succ_eq_append_getElem hk, List.map_append, List.map_cons, List.map_nil, List.sum_append, List.sum_cons, List.sum_nil, Nat.add_zero]
theorem getD_leaf {L : List Leaf} {k : Nat} (hk : k < L.length) : L.getD k ([], []) = L[k] := by simp [List.getD, hk]
theorem leafOk_parts {N H : Nat} {I O : List Int} (h : leafOk N H (I, O) = true) : ascB I N = true ∧ ascB O N = true ∧ I.length ≤ H ∧ O.length + H ≤ N ∧ meets I O = false := by
  simp only [leafOk, Bool.and_eq_true, Bool.not_eq_true', decide_eq_true_eq] at h
  obtain ⟨⟨⟨⟨h1, h2⟩, h3⟩, h4⟩, h5⟩ := h
  exact ⟨h1, h2, by omega, by omega, h5⟩
theorem goodAt_bad {N H : Int} {L : List Leaf} {k : Nat} {x : Leaf} (hk : k < L.length) (hx : L[k] = x) (h : leafOk N H x = false) : goodAt N H L k = false := by
  unfold goodAt; rw [getD_leaf hk, hx, h]; rfl
theorem goodAt_not {N H : Int} {L : List Leaf} {k j : Nat} {x : Leaf} (hk : k < L.length) (hx : L[k] = x) (hj : j < k) (h : apartL x (L[j]'(by omega)) = false) : goodAt N H L k = false := by
  unfold goodAt
  rw [all_range_false j hj (by rw [getD_leaf hk, getD_leaf (by omega), hx]; exact h), Bool.and_false]
theorem goodAt_yes {N H : Int} {L : List Leaf} {k : Nat} {x : Leaf} (hk : k < L.length) (hx : L[k] = x) (h1 : leafOk N H x = true) (h : ∀ j (hj : j < k), apartL x (L[j]'(by omega)) = true) : goodAt N H L k = true := by
  unfold goodAt
  rw [getD_leaf hk, hx, h1, Bool.true_and]
  exact all_range_true fun j hj => by rw [getD_leaf (by omega)]; exact h j hj
theorem goodAt_ok {N H : Int} {L : List Leaf} {k : Nat} (hk : k < L.length) (h : goodAt N H L k = true) : leafOk N H L[k] = true := by
  unfold goodAt at h; rw [getD_leaf hk, Bool.and_eq_true] at h; exact h.1
theorem sumL_lt {N H : Nat} (hN : N ≤ 64) (L : List Leaf) : sumL N H L ≤ L.length * 2 ^ 64 := by
  induction L with
  | nil => simp [sumL]
  | cons x L ih =>
    have h1 := ch_le (N - x.1.length - x.2.length) (H - x.1.length)
    have h2 : (2 : Nat) ^ (N - x.1.length - x.2.length) ≤ 2 ^ 64 := Nat.pow_le_pow_right (by decide) (by omega)
    simp only [sumL, List.map_cons, List.sum_cons, List.length_cons] at ih ⊢
    omega
theorem lg_sumL {N H : Nat} (hN : N ≤ 64) (L : List Leaf) (hL : L.length ≤ 4096) : lg (sumL N H L) ≤ 3 := by
  rw [lg_le, B_two]
  have := sumL_lt (H := H) hN L
  have h2 : L.length * 2 ^ 64 ≤ 4096 * 2 ^ 64 := Nat.mul_le_mul_right _ hL
  have h3 : 4096 * 2 ^ 64 < 2 ^ (32 * 3) := by decide
  omega
end Go.Lim
