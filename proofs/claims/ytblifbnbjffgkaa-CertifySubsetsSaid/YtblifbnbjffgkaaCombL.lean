/- The ascending lists of h of the integers from lo to lo + m - 1, in lexicographic order. Plain mathematics. Conditions: none. -/
import Derived.Test.YtblifbnbjffgkaaComb
import Derived.Test.YtblifbnbjffgkaaLeafL
namespace Go.Lim

def combs : Nat → Nat → Int → List (List Int)
  | _, 0, _ => [[]]
  | 0, _ + 1, _ => []
  | m + 1, h + 1, lo => (combs m h (lo + 1)).map (lo :: ·) ++ combs m (h + 1) (lo + 1)

theorem combs_length : ∀ (m h : Nat) (lo : Int), (combs m h lo).length = ch m h
  | m, 0, lo => by rw [ch_zero]; cases m <;> rfl
  | 0, h + 1, lo => rfl
  | m + 1, h + 1, lo => by rw [combs, ch, List.length_append, List.length_map, combs_length m h, combs_length m (h + 1)]

def up (lo : Int) : Nat → List Int
  | 0 => []
  | k + 1 => lo :: up (lo + 1) k
theorem up_length : ∀ (k : Nat) (lo : Int), (up lo k).length = k
  | 0, _ => rfl
  | k + 1, lo => by rw [up, List.length_cons, up_length k]
theorem up_get : ∀ (k : Nat) (lo : Int) (i : Nat) (hi : i < (up lo k).length), (up lo k)[i] = lo + i
  | 0, lo, i, hi => by simp [up] at hi
  | k + 1, lo, 0, hi => by simp [up]
  | k + 1, lo, i + 1, hi => by
    simp only [up, List.getElem_cons_succ]
    rw [up_get k (lo + 1) i]; omega

theorem combs_zero (m : Nat) (lo : Int) : combs m 0 lo = [[]] := by cases m <;> rfl
theorem combs_first : ∀ (m h : Nat) (lo : Int), (combs m h lo)[0]? = if h ≤ m then some (up lo h) else none
  | m, 0, lo => by rw [combs_zero]; simp [up]
  | 0, h + 1, lo => by simp [combs]
  | m + 1, h + 1, lo => by
    rw [combs]
    have h1 := combs_first m h (lo + 1)
    by_cases hm : h ≤ m
    · rw [if_pos hm] at h1
      obtain ⟨hl, h2⟩ := List.getElem?_eq_some_iff.1 h1
      rw [List.getElem?_append_left (by simpa using hl), List.getElem?_map, h1, if_pos (by omega)]
      rfl
    · rw [if_neg hm] at h1
      have he : combs m h (lo + 1) = [] := by
        rw [List.getElem?_eq_none_iff] at h1
        exact List.eq_nil_of_length_eq_zero (by omega)
      rw [he, List.map_nil, List.nil_append, combs_first m (h + 1), if_neg (by omega), if_neg (by omega)]

theorem combs_mem : ∀ (m h : Nat) (lo : Int) (l : List Int), l ∈ combs m h lo → l.length = h ∧ (∀ x ∈ l, lo ≤ x ∧ x < lo + m) ∧ l.Pairwise (· < ·)
  | m, 0, lo, l, hl => by
    rw [combs_zero, List.mem_singleton] at hl; subst hl; simp
  | 0, h + 1, lo, l, hl => by simp [combs] at hl
  | m + 1, h + 1, lo, l, hl => by
    rw [combs, List.mem_append, List.mem_map] at hl
    rcases hl with ⟨r, hr, rfl⟩ | hl
    · obtain ⟨h1, h2, h3⟩ := combs_mem m h (lo + 1) r hr
      refine ⟨by simp [h1], fun x hx => ?_, List.pairwise_cons.2 ⟨fun x hx => ?_, h3⟩⟩
      · rcases List.mem_cons.1 hx with rfl | hx
        · omega
        · have := h2 x hx; omega
      · have := h2 x hx; omega
    · obtain ⟨h1, h2, h3⟩ := combs_mem m (h + 1) (lo + 1) l hl
      exact ⟨h1, fun x hx => by have := h2 x hx; omega, h3⟩

/-- The list that follows one, if there is one. -/
def nxt (n : Int) : List Int → Option (List Int)
  | [] => none
  | x :: r => match nxt n r with
    | some r' => some (x :: r')
    | none => if x + r.length + 1 < n then some (up (x + 1) (r.length + 1)) else none

theorem nxt_combs : ∀ (m h : Nat) (lo : Int) (k : Nat) (hk : k < (combs m h lo).length), nxt (lo + m) (combs m h lo)[k] = (combs m h lo)[k + 1]?
  | m, 0, lo, k, hk => by
    have : (combs m 0 lo).length = 1 := by rw [combs_zero]; rfl
    have hk0 : k = 0 := by omega
    subst hk0
    simp [combs_zero, nxt]
  | 0, h + 1, lo, k, hk => by simp [combs] at hk
  | m + 1, h + 1, lo, k, hk => by
    have hA : (List.map (fun x => lo :: x) (combs m h (lo + 1))).length = (combs m h (lo + 1)).length := List.length_map ..
    have e1 : lo + ((m + 1 : Nat) : Int) = lo + 1 + m := by omega
    rw [e1]
    by_cases hlt : k < (combs m h (lo + 1)).length
    · have h1 := nxt_combs m h (lo + 1) k hlt
      have hlen := (combs_mem m h (lo + 1) _ (List.getElem_mem hlt)).1
      simp only [combs]
      rw [List.getElem_append_left (by rw [hA]; exact hlt), List.getElem_map, nxt, h1]
      by_cases hlt2 : k + 1 < (combs m h (lo + 1)).length
      · rw [List.getElem?_append_left (by rw [hA]; exact hlt2), List.getElem?_map, List.getElem?_eq_getElem hlt2]
        rfl
      · rw [List.getElem?_eq_none (by omega)]
        rw [List.getElem?_append_right (by rw [hA]; omega), show k + 1 - (List.map (fun x => lo :: x) (combs m h (lo + 1))).length = 0 by rw [hA]; omega, combs_first m (h + 1)]
        simp only [hlen]
        by_cases hm : h + 1 ≤ m
        · rw [if_pos hm, if_pos (by omega)]
        · rw [if_neg hm, if_neg (by omega)]
    · have hk' : k - (combs m h (lo + 1)).length < (combs m (h + 1) (lo + 1)).length := by
        simp only [combs, List.length_append, List.length_map] at hk; omega
      have h1 := nxt_combs m (h + 1) (lo + 1) _ hk'
      simp only [combs]
      rw [List.getElem_append_right (by rw [hA]; omega), List.getElem?_append_right (by rw [hA]; omega)]
      simp only [hA]
      rw [h1, show k + 1 - (combs m h (lo + 1)).length = k - (combs m h (lo + 1)).length + 1 by omega]

/-- The list that follows, as the program finds it. -/
theorem nxt_none (n : Int) : ∀ (l : List Int), (∀ q (hq : q < l.length), l[q] = n - l.length + q) → nxt n l = none
  | [], _ => rfl
  | x :: r, h => by
    have h0 := h 0 (by simp)
    have hr := nxt_none n r (fun q hq => by
      have := h (q + 1) (by simpa using hq)
      simp only [List.getElem_cons_succ, List.length_cons] at this
      rw [this]; omega)
    simp only [List.getElem_cons_zero, List.length_cons] at h0
    rw [nxt, hr]
    simp only
    rw [if_neg (by omega)]
theorem nxt_some (n : Int) : ∀ (l : List Int) (p : Nat) (hp : p < l.length), l[p] < n - l.length + p → (∀ q (hq : q < l.length), p < q → l[q] = n - l.length + q) → nxt n l = some (l.take p ++ up (l[p] + 1) (l.length - p))
  | [], p, hp, _, _ => by simp at hp
  | x :: r, 0, hp, h0, h => by
    have hr := nxt_none n r (fun q hq => by
      have := h (q + 1) (by simpa using hq) (by omega)
      simp only [List.getElem_cons_succ, List.length_cons] at this
      rw [this]; omega)
    simp only [List.getElem_cons_zero, List.length_cons] at h0
    rw [nxt, hr]
    simp only
    rw [if_pos (by omega)]
    simp
  | x :: r, p + 1, hp, h0, h => by
    simp only [List.getElem_cons_succ, List.length_cons] at h0
    have hr := nxt_some n r p (by simpa using hp) (by omega) (fun q hq hpq => by
      have := h (q + 1) (by simpa using hq) (by omega)
      simp only [List.getElem_cons_succ, List.length_cons] at this
      rw [this]; omega)
    rw [nxt, hr]
    simp
theorem combs_top (m h : Nat) (lo : Int) : ∀ l ∈ combs m h lo, ∀ q (hq : q < l.length), l[q] ≤ lo + m - h + q := by
  intro l hl q hq
  obtain ⟨h1, h2, h3⟩ := combs_mem m h lo l hl
  have key : ∀ d, q + d < l.length → l[q] + d ≤ l[q + d]! := by
    intro d
    induction d with
    | zero => intro hd; simp [getElem!_pos, hq]
    | succ d ih =>
      intro hd
      have e := ih (by omega)
      have e2 := List.pairwise_iff_getElem.1 h3 (q + d) (q + d + 1) (by omega) (by omega) (by omega)
      rw [getElem!_pos l (q + d) (by omega)] at e
      rw [getElem!_pos l (q + (d + 1)) (by omega)]
      have e3 : l[q + (d + 1)]'(by omega) = l[q + d + 1]'(by omega) := rfl
      rw [e3]; omega
  have e := key (l.length - 1 - q) (by omega)
  rw [getElem!_pos l _ (by omega)] at e
  have e2 := (h2 _ (List.getElem_mem (show q + (l.length - 1 - q) < l.length by omega))).2
  omega
end Go.Lim
