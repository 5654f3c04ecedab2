/- Each subset belongs to just one leaf, if the leaves cover. Plain mathematics. Conditions: none. -/
import Derived.Test.YtblifbnbjffgkaaCombL
namespace Go.Lim

def matchL (x : Leaf) (s : List Int) : Bool := (x.1.all fun a => s.any fun b => a == b) && !meets x.2 s
theorem matchL_iff {x : Leaf} {s : List Int} : matchL x s = true ↔ (∀ a ∈ x.1, a ∈ s) ∧ ∀ a ∈ x.2, ¬ a ∈ s := by
  simp only [matchL, Bool.and_eq_true, List.all_eq_true, List.any_eq_true, beq_iff_eq, Bool.not_eq_true', exists_eq_right']
  refine and_congr Iff.rfl ?_
  rw [← Bool.not_eq_true, meets_iff]
  constructor
  · intro h a ha hs; exact h ⟨a, ha, hs⟩
  · rintro h ⟨a, ha, hs⟩; exact h a ha hs

/-- Two ascending lists that share nothing, of the m integers from lo on. -/
def Two (I O : List Int) (lo : Int) (m : Nat) : Prop := I.Pairwise (· < ·) ∧ O.Pairwise (· < ·) ∧ (∀ x ∈ I, lo ≤ x ∧ x < lo + m) ∧ (∀ x ∈ O, lo ≤ x ∧ x < lo + m) ∧ ∀ x ∈ I, ¬ x ∈ O

theorem head_or {I : List Int} {lo : Int} (h1 : I.Pairwise (· < ·)) (h2 : ∀ x ∈ I, lo ≤ x) : (∃ r, I = lo :: r ∧ ∀ x ∈ r, lo + 1 ≤ x) ∨ ∀ x ∈ I, lo + 1 ≤ x := by
  cases I with
  | nil => exact .inr (by simp)
  | cons a r =>
    obtain ⟨h3, _⟩ := List.pairwise_cons.1 h1
    by_cases ha : a = lo
    · subst ha; exact .inl ⟨r, rfl, fun x hx => by have := h3 x hx; omega⟩
    · refine .inr fun x hx => ?_
      have hlo := h2 a (by simp)
      rcases List.mem_cons.1 hx with rfl | hx
      · omega
      · have := h3 x hx; omega

theorem Two.cases {I O : List Int} {lo : Int} {m : Nat} (h : Two I O lo (m + 1)) :
    (∃ r, I = lo :: r ∧ Two r O (lo + 1) m ∧ ¬ lo ∈ O) ∨ (∃ r, O = lo :: r ∧ Two I r (lo + 1) m ∧ ¬ lo ∈ I) ∨ Two I O (lo + 1) m := by
  obtain ⟨h1, h2, h3, h4, h5⟩ := h
  have b1 : ∀ {l : List Int}, (∀ x ∈ l, lo ≤ x ∧ x < lo + ((m + 1 : Nat) : Int)) → (∀ x ∈ l, lo + 1 ≤ x) → ∀ x ∈ l, lo + 1 ≤ x ∧ x < lo + 1 + m := fun a b x hx => by have := a x hx; have := b x hx; omega
  rcases head_or h1 (fun x hx => (h3 x hx).1) with ⟨r, rfl, hr⟩ | hI
  · have hn : ¬ lo ∈ O := h5 lo (by simp)
    have hO : ∀ x ∈ O, lo + 1 ≤ x := fun x hx => by
      have := (h4 x hx).1
      by_cases hxl : x = lo
      · subst hxl; exact absurd hx hn
      · omega
    exact .inl ⟨r, rfl, ⟨(List.pairwise_cons.1 h1).2, h2, b1 (fun x hx => h3 x (by simp [hx])) hr, b1 h4 hO, fun x hx => h5 x (by simp [hx])⟩, hn⟩
  · have hnI : ¬ lo ∈ I := fun hx => by have := hI lo hx; omega
    rcases head_or h2 (fun x hx => (h4 x hx).1) with ⟨r, rfl, hr⟩ | hO
    · exact .inr (.inl ⟨r, rfl, ⟨h1, (List.pairwise_cons.1 h2).2, b1 h3 hI, b1 (fun x hx => h4 x (by simp [hx])) hr, fun x hx hr => h5 x hx (by simp [hr])⟩, hnI⟩)
    · exact .inr (.inr ⟨h1, h2, b1 h3 hI, b1 h4 hO, h5⟩)
theorem Two.zero {I O : List Int} {lo : Int} (h : Two I O lo 0) : I = [] ∧ O = [] := by
  obtain ⟨_, _, h3, h4, _⟩ := h
  constructor
  · cases I with
    | nil => rfl
    | cons a r => have := h3 a (by simp); omega
  · cases O with
    | nil => rfl
    | cons a r => have := h4 a (by simp); omega
theorem Two.len : ∀ {m : Nat} {I O : List Int} {lo : Int}, Two I O lo m → I.length + O.length ≤ m
  | 0, I, O, lo, h => by obtain ⟨rfl, rfl⟩ := h.zero; simp
  | m + 1, I, O, lo, h => by
    rcases h.cases with ⟨r, rfl, h, _⟩ | ⟨r, rfl, h, _⟩ | h
    · have := h.len; simp; omega
    · have := h.len; simp; omega
    · have := h.len; omega

theorem countP_eq {α : Type} {p q : α → Bool} {l : List α} (h : ∀ x ∈ l, p x = q x) : l.countP p = l.countP q := by
  induction l with
  | nil => rfl
  | cons a l ih => simp only [List.countP_cons, h a (by simp), ih (fun x hx => h x (by simp [hx]))]
theorem countP_none {α : Type} {p : α → Bool} {l : List α} (h : ∀ x ∈ l, p x = false) : l.countP p = 0 := by
  rw [List.countP_eq_zero]; intro x hx; rw [h x hx]; simp

theorem match_count : ∀ (m h : Nat) (lo : Int) (I O : List Int), Two I O lo m → (combs m h lo).countP (matchL (I, O)) = if I.length ≤ h then ch (m - I.length - O.length) (h - I.length) else 0
  | m, 0, lo, I, O, _ => by
    rw [combs_zero]
    cases I with
    | nil => simp [matchL, meets, ch_zero]
    | cons a r => simp [matchL]
  | 0, h + 1, lo, I, O, ht => by
    obtain ⟨rfl, rfl⟩ := ht.zero
    simp [combs, ch]
  | m + 1, h + 1, lo, I, O, ht => by
    have hrng : ∀ (k : Nat), ∀ l ∈ combs m k (lo + 1), ¬ lo ∈ l := fun k l hl hlo => by have := (combs_mem m k (lo + 1) l hl).2.1 lo hlo; omega
    simp only [combs, List.countP_append, List.countP_map]
    rcases ht.cases with ⟨r, rfl, ht', hn⟩ | ⟨r, rfl, ht', hn⟩ | ht'
    · have e1 : (combs m h (lo + 1)).countP (matchL (lo :: r, O) ∘ fun x => lo :: x) = (combs m h (lo + 1)).countP (matchL (r, O)) := countP_eq fun l hl => by
        rw [Function.comp, Bool.eq_iff_iff, matchL_iff, matchL_iff]
        constructor
        · rintro ⟨a, b⟩
          refine ⟨fun x hx => ?_, fun x hx hxl => b x hx (by simp [hxl])⟩
          rcases List.mem_cons.1 (a x (by simp [hx])) with rfl | h
          · have := (ht'.2.2.1 x hx).1; omega
          · exact h
        · rintro ⟨a, b⟩
          refine ⟨fun x hx => ?_, fun x hx hxl => ?_⟩
          · rcases List.mem_cons.1 hx with rfl | hx
            · simp
            · simp [a x hx]
          · rcases List.mem_cons.1 hxl with rfl | hxl
            · exact hn hx
            · exact b x hx hxl
      have e2 : (combs m (h + 1) (lo + 1)).countP (matchL (lo :: r, O)) = 0 := countP_none fun l hl => by
        rw [Bool.eq_false_iff]
        intro hm
        exact hrng _ l hl ((matchL_iff.1 hm).1 lo (by simp))
      rw [e1, e2, match_count m h (lo + 1) r O ht']
      simp only [List.length_cons, Nat.add_zero, Nat.succ_le_succ_iff, Nat.add_sub_add_right]
    · have e1 : (combs m h (lo + 1)).countP (matchL (I, lo :: r) ∘ fun x => lo :: x) = 0 := countP_none fun l hl => by
        rw [Bool.eq_false_iff]
        intro hm
        exact (matchL_iff.1 hm).2 lo (by simp) (by simp)
      have e2 : (combs m (h + 1) (lo + 1)).countP (matchL (I, lo :: r)) = (combs m (h + 1) (lo + 1)).countP (matchL (I, r)) := countP_eq fun l hl => by
        rw [Bool.eq_iff_iff, matchL_iff, matchL_iff]
        constructor
        · rintro ⟨a, b⟩; exact ⟨a, fun x hx => b x (by simp [hx])⟩
        · rintro ⟨a, b⟩
          refine ⟨a, fun x hx => ?_⟩
          rcases List.mem_cons.1 hx with rfl | hx
          · exact hrng _ l hl
          · exact b x hx
      rw [e1, e2, match_count m (h + 1) (lo + 1) I r ht', Nat.zero_add]
      simp only [List.length_cons]
      rw [show m + 1 - I.length - (r.length + 1) = m - I.length - r.length by omega]
    · have e1 : (combs m h (lo + 1)).countP (matchL (I, O) ∘ fun x => lo :: x) = (combs m h (lo + 1)).countP (matchL (I, O)) := countP_eq fun l hl => by
        rw [Function.comp, Bool.eq_iff_iff, matchL_iff, matchL_iff]
        have hI : ∀ x ∈ I, x ≠ lo := fun x hx => by have := (ht'.2.2.1 x hx).1; omega
        have hO : ∀ x ∈ O, x ≠ lo := fun x hx => by have := (ht'.2.2.2.1 x hx).1; omega
        constructor
        · rintro ⟨a, b⟩
          refine ⟨fun x hx => ?_, fun x hx hxl => b x hx (by simp [hxl])⟩
          rcases List.mem_cons.1 (a x hx) with h | h
          · exact absurd h (hI x hx)
          · exact h
        · rintro ⟨a, b⟩
          refine ⟨fun x hx => by simp [a x hx], fun x hx hxl => ?_⟩
          rcases List.mem_cons.1 hxl with h | h
          · exact hO x hx h
          · exact b x hx h
      have hlen := ht'.len
      rw [e1, match_count m h (lo + 1) I O ht', match_count m (h + 1) (lo + 1) I O ht']
      by_cases h1 : I.length ≤ h
      · rw [if_pos h1, if_pos (by omega), if_pos (by omega), show m + 1 - I.length - O.length = (m - I.length - O.length) + 1 by omega, show h + 1 - I.length = (h - I.length) + 1 by omega]
        rfl
      · rw [if_neg h1]
        by_cases h2 : I.length ≤ h + 1
        · rw [if_pos h2, if_pos h2, show h + 1 - I.length = 0 by omega, ch_zero, ch_zero]
        · rw [if_neg h2, if_neg h2]

theorem asc_pair {l : List Int} {n : Int} (h : ascB l n = true) : l.Pairwise (· < ·) :=
  List.pairwise_iff_getElem.2 fun i j hi hj hij => ascB_lt h i j hij hj
theorem leafOk_two {n h : Nat} {x : Leaf} (hx : leafOk n h x = true) : Two x.1 x.2 0 n ∧ x.1.length ≤ h := by
  obtain ⟨h1, h2, h3, h4, h5⟩ := leafOk_parts (I := x.1) (O := x.2) hx
  refine ⟨⟨asc_pair h1, asc_pair h2, fun y hy => by have := ascB_mem h1 hy; omega, fun y hy => by have := ascB_mem h2 hy; omega, fun y hy hy2 => ?_⟩, h3⟩
  rw [meets_iff.2 ⟨y, hy, hy2⟩] at h5; simp at h5

theorem double {α β : Type} (p : α → β → Bool) (A : List α) : ∀ B : List β, (A.map fun a => B.countP (p a)).sum = (B.map fun b => A.countP fun a => p a b).sum
  | [] => by
    simp only [List.countP_nil, List.map_nil, List.sum_nil]
    induction A with
    | nil => rfl
    | cons a A ih => simp [ih]
  | b :: B => by
    rw [List.map_cons, List.sum_cons, ← double p A B]
    induction A with
    | nil => rfl
    | cons a A ih =>
      simp only [List.map_cons, List.sum_cons, List.countP_cons] at ih ⊢
      omega
theorem countP_le_one {α : Type} {p : α → Bool} {l : List α} (h : l.Pairwise fun a b => ¬ (p a = true ∧ p b = true)) : l.countP p ≤ 1 := by
  induction l with
  | nil => simp
  | cons a l ih =>
    obtain ⟨h1, h2⟩ := List.pairwise_cons.1 h
    rw [List.countP_cons]
    by_cases ha : p a = true
    · have : l.countP p = 0 := by
        rw [List.countP_eq_zero]
        intro x hx hp; exact h1 x hx ⟨ha, hp⟩
      rw [this, if_pos ha]; omega
    · rw [if_neg ha]; exact ih h2
theorem sum_le_len {α : Type} {f : α → Nat} {l : List α} (h : ∀ x ∈ l, f x ≤ 1) : (l.map f).sum ≤ l.length := by
  induction l with
  | nil => simp
  | cons a l ih =>
    have h1 := h a (by simp)
    have h2 := ih (fun x hx => h x (by simp [hx]))
    simp only [List.map_cons, List.sum_cons, List.length_cons]; omega
theorem all_one {α : Type} {f : α → Nat} {l : List α} (h : ∀ x ∈ l, f x ≤ 1) (hs : (l.map f).sum = l.length) : ∀ x ∈ l, f x = 1 := by
  induction l with
  | nil => simp
  | cons a l ih =>
    have h1 := h a (by simp)
    have h2 := sum_le_len (fun x hx => h x (by simp [hx]) : ∀ x ∈ l, f x ≤ 1)
    simp only [List.map_cons, List.sum_cons, List.length_cons] at hs
    intro x hx
    rcases List.mem_cons.1 hx with rfl | hx
    · omega
    · exact ih (fun x hx => h x (by simp [hx])) (by omega) x hx

theorem cover_one {n h : Nat} {L : List Leaf} (hc : coverB n h L = true) : ∀ s ∈ combs n h 0, L.countP (fun x => matchL x s) = 1 := by
  simp only [coverB, Bool.and_eq_true, decide_eq_true_eq, Int.toNat_natCast] at hc
  obtain ⟨⟨_, hgood⟩, hsum⟩ := hc
  have hg : ∀ k (hk : k < L.length), goodAt n h L k = true := fun k hk => by
    have := List.all_eq_true.1 hgood k (by simpa using hk); exact this
  have hok : ∀ x ∈ L, leafOk n h x = true := fun x hx => by
    obtain ⟨k, hk, rfl⟩ := List.getElem_of_mem hx
    exact goodAt_ok hk (hg k hk)
  refine all_one (fun s hs => countP_le_one (List.pairwise_iff_getElem.2 fun i j hi hj hij hm => ?_)) ?_
  · have hj1 := hg j hj
    unfold goodAt at hj1
    rw [Bool.and_eq_true] at hj1
    have ha := List.all_eq_true.1 hj1.2 i (by simpa using hij)
    rw [getD_leaf hj, getD_leaf hi] at ha
    obtain ⟨m1, m2⟩ := hm
    rw [matchL_iff] at m1 m2
    simp only [apartL, Bool.or_eq_true, meets_iff] at ha
    rcases ha with ⟨v, v1, v2⟩ | ⟨v, v1, v2⟩
    · exact m1.2 v v2 (m2.1 v v1)
    · exact m2.2 v v1 (m1.1 v v2)
  · rw [double (fun s x => matchL x s) (combs n h 0) L, combs_length, ← hsum, sumL]
    congr 1
    apply List.map_congr_left
    intro x hx
    obtain ⟨h2, h3⟩ := leafOk_two (hok x hx)
    have := match_count n h 0 x.1 x.2 h2
    rw [if_pos h3] at this
    exact this
end Go.Lim
