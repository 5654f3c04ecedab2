/- certify.choose. Conditions: k ≤ n ≤ 64. Lists of integers: ascending, without a common element. Plain mathematics. Conditions: none. Lists of integers in slices: ascending, common elements, equality. Conditions: lengths far below any machine's. Leaves: which lists of leaves cover all subsets. Plain mathematics. Conditions: none. More readings: leaves; lists under a new mask. Conditions: none. The tape of choices: New, Mod, Next, Bool, Pick, Count. What is drawn is some number in the range. Conditions: none beyond small ranges. The tape of choices: New, Bool, Pick, Count, Subset, OddSubset. What is drawn is something in the range. Conditions: none beyond small ranges. The tape of choices: Subset, OddSubset. What is drawn is some list of numbers, laid in new blocks. Conditions: none beyond small ranges. Subtraction, shifts and long division of lists of digits: invariants of the loops, and Knuth's estimate of a digit. Plain mathematics. Conditions: none. bits.Sub32, natural.Sub. Conditions: lengths far below any machine's. natural.guess, shifted, reduce, restore: parts of the long division. Conditions: lengths far below any machine's. natural.Sub. Conditions: lengths far below any machine's. -/
import Derived.Test.YtjbhcniiioepgaaGreatDpA
import Derived.Deep.RegionHeld3
import Derived.Deep.RegionLaw
import Derived.Deep.AppendLies
import Derived.BigRegion
import Derived.Laws.Bits64b
import Derived.BigQuiet
namespace Go.Proofs.YtjbhcniiioepgaaGreat
open Go.RowKit Go.Rep Go.Lim

theorem fromUint_int (X : Nat → Bool) (m : Int) (n : Nat) (w : World) (hm : m = (n : Int)) (hn : n < 4294967296) (hX : ∀ k, X k = true → k < w.heap.size) :
    Calls Tryz.prog 199 #[.int .u64 m] w (NatOut X w n) := by
  subst hm; exact fromUint_any X n w (by omega) hX

theorem choose_any (X : Nat → Bool) (n k : Nat) (w : World) (hk : k ≤ n) (hn : n ≤ 64) (hX : ∀ k, X k = true → k < w.heap.size) :
    Calls Tryz.prog 144 #[.int .i64 n, .int .i64 k] w (NatOut X w (ch n k)) := by
  go_enter Tryz.func144, Tryz.ntmps144
  go_wp2_with fail
  refine (fromUint_int X 1 1 w (by decide) (by decide) hX).mono ?_
  rintro e w1 ⟨hE1, ao1, ca1, l1, rfl, hc1, hcan1, hs1⟩
  go_wp2_with fail
  go_loopw [5, 6] (fun s c wr => ∃ (i : Nat) (ao : Option Addr) (cap : Nat) (l : List Nat), c = .int .i64 i ∧ s = .slice ao l.length cap ∧ 0 < i ∧ i ≤ k + 1 ∧ l.length ≤ cap ∧ Canon l (ch (n - k + (i - 1)) (i - 1)) ∧ Sl (NatIn .u32) 1 (mk X wr) ao l ∧ Ext w wr) (fun _ c _ => k + 1 - (intOf c).toNat)
  case atStart => exact ⟨1, ao1, ca1, l1, rfl, rfl, by decide, by omega, hc1, by rw [Nat.sub_self, ch_zero]; exact hcan1, hs1, hE1⟩
  case round =>
    clear hE1 hc1 hcan1 hs1
    obtain ⟨i, ao, cap, l, rfl, rfl, hi0, hik, hcap, hcan, hs, hE⟩ := hrel
    have hXr : ∀ k, X k = true → k < wr.heap.size := fun k hk => Nat.lt_of_lt_of_le (hX k hk) hE.size
    by_cases hlt : i ≤ k
    · have hl3 : l.length ≤ 3 := by rw [hcan.len]; exact lg_ch (by omega)
      have hst := hid (ch_step (n - k) i hi0)
      have hlg := lg_ch (n := n - k + (i - 1)) (k := i - 1) (by omega)
      generalize ch (n - k + (i - 1)) (i - 1) = c at hcan hst hlg
      go_wp2_with fail
      refine (fromUint_int X _ (n - k + i) _ (by omega) (by omega) hXr).mono ?_
      rintro e w2 ⟨hE2, ao2, ca2, l2, rfl, hc2, hcan2, hs2⟩
      have hX2 : ∀ k, X k = true → k < w2.heap.size := fun k hk => Nat.lt_of_lt_of_le (hXr k hk) hE2.size
      have hl2 : l2.length ≤ 1 := by rw [hcan2.len]; exact lg_le.2 (by rw [Nat.pow_one, B_eq]; omega)
      go_wp2_with fail
      refine (mul_any X _ _ _ _ _ _ _ (hs.mono (NatIn.mono _) (mk_ext hE2)) hs2 hcan.1 hcan2.1 (by omega) (by omega) hcap hc2 hX2 c (n - k + i) hcan.val hcan2.val).mono ?_
      rintro e w3 ⟨hE3, ao3, ca3, l3, rfl, hc3, hcan3, hs3⟩
      have hX3 : ∀ k, X k = true → k < w3.heap.size := fun k hk => Nat.lt_of_lt_of_le (hX2 k hk) hE3.size
      have hl3' : l3.length ≤ 4 := by
        rw [hcan3.len]
        have h1 := lg_mul c (n - k + i)
        have h2 : lg (n - k + i) ≤ 1 := lg_le.2 (by rw [Nat.pow_one, B_eq]; omega)
        omega
      go_wp2_with fail
      refine (fromUint_int X _ i _ (by omega) (by omega) hX3).mono ?_
      rintro e w4 ⟨hE4, ao4, ca4, l4, rfl, hc4, hcan4, hs4⟩
      have hX4 : ∀ k, X k = true → k < w4.heap.size := fun k hk => Nat.lt_of_lt_of_le (hX3 k hk) hE4.size
      have hl4 : l4.length ≤ 1 := by rw [hcan4.len]; exact lg_le.2 (by rw [Nat.pow_one, B_eq]; omega)
      go_wp2_with fail
      refine (div1_any X _ _ _ _ _ _ _ (hs3.mono (NatIn.mono _) (mk_ext hE4)) hs4 hcan3.1 hcan4.1 (by omega) (by omega) hc3 hc4 hX4 _ _ hcan3.val hcan4.val hi0 (by omega)).mono ?_
      rintro e w5 ⟨hE5, ao5, ca5, l5, bo5, cb5, m5, rfl, hc5, hcan5, hs5, _, _, _⟩
      go_wp2_with fail
      go_roundw
      case rel => exact ⟨i + 1, ao5, ca5, l5, by go_num, rfl, by omega, by omega, hc5, by rw [hst.out] at hcan5; exact hcan5, hs5, (((hE.trans hE2).trans hE3).trans hE4).trans hE5⟩
      case measure => simp [intOf]; omega
    · have hik' : i = k + 1 := by omega
      subst hik'
      have he : n - k + (k + 1 - 1) = n := by omega
      rw [he, Nat.add_sub_cancel] at hcan
      go_wp2_with fail
      go_ret
      exact ⟨hE, ao, cap, l, rfl, hcap, hcan, hs⟩

/-- A number in a slice of digits. -/
def NumR : Mem → Value → Nat → Prop := fun h u n => ∃ ao cap l, u = .slice ao l.length cap ∧ l.length ≤ cap ∧ Canon l n ∧ Sl (NatIn .u32) 1 h ao l
theorem NumR.mono : Mono NumR := by
  rintro h h' u x hl ⟨ao, cap, l, rfl, h1, h2, h3⟩
  exact ⟨ao, cap, l, rfl, h1, h2, h3.mono (NatIn.mono _) hl⟩
theorem NumR.one : OneCell NumR := by rintro h u x ⟨ao, cap, l, rfl, _⟩; rfl
theorem NumR.elem : Elem NumR 1 := ⟨NumR.mono, by rintro h u x ⟨ao, cap, l, rfl, _⟩; rfl, by rintro h u x ⟨ao, cap, l, rfl, _⟩ c hc; simp [cellsL, Value.cells] at hc; subst hc; rfl, Nat.one_pos⟩
theorem NumR.zero (h : Mem) : NumR h (.slice none 0 0) 0 := ⟨none, 0, [], rfl, by simp, Canon.nil, Sl.nil _ _ _ _⟩

end Go.Proofs.YtjbhcniiioepgaaGreat


namespace Go.Lim

/-- The element at place i is from 0 to n - 1 and greater than the one before. -/
def ascAt (l : List Int) (n : Int) (i : Nat) : Bool := decide (0 ≤ l.getD i 0) && decide (l.getD i 0 < n) && (decide (i = 0) || decide (l.getD (i - 1) 0 < l.getD i 0))
def ascB (l : List Int) (n : Int) : Bool := (List.range l.length).all (ascAt l n)
theorem upto_succ {p : Nat → Prop} {i : Nat} (h : ∀ j, j < i → p j) (hi : p i) : ∀ j, j < i + 1 → p j := fun j hj => by
  by_cases hji : j < i
  · exact h j hji
  · obtain rfl : j = i := by omega
    exact hi
theorem all_range_false {n : Nat} {p : Nat → Bool} (i : Nat) (h : i < n) (hp : p i = false) : (List.range n).all p = false := by
  rw [List.all_eq_false]; exact ⟨i, by simpa using h, by simp [hp]⟩
theorem all_range_true {n : Nat} {p : Nat → Bool} (h : ∀ i, i < n → p i = true) : (List.range n).all p = true := by
  rw [List.all_eq_true]; intro i hi; exact h i (by simpa using hi)
theorem all_range_iff {n : Nat} {p : Nat → Bool} : (List.range n).all p = true ↔ ∀ i, i < n → p i = true := by
  rw [List.all_eq_true]; simp
theorem ascAt_eq {l : List Int} {n : Int} {i : Nat} {x y : Int} (hx : l.getD i 0 = x) (hy : l.getD (i - 1) 0 = y) : ascAt l n i = (decide (0 ≤ x) && decide (x < n) && (decide (i = 0) || decide (y < x))) := by
  unfold ascAt; rw [hx, hy]
theorem getD_eq {l : List Int} {i : Nat} (h : i < l.length) : l.getD i 0 = l[i] := by simp [List.getD, h]
/-- Some number is in both lists. -/
def meets (a b : List Int) : Bool := a.any fun x => b.any fun y => x == y
theorem meets_iff {a b : List Int} : meets a b = true ↔ ∃ x, x ∈ a ∧ x ∈ b := by
  simp [meets, List.any_eq_true]
end Go.Lim


namespace Go.Proofs.YtjbhcniiioepgaaGreat
open Go.RowKit Go.Rep Go.Lim

set_option maxHeartbeats 400000 in
theorem ascending_any (X : Nat → Bool) (ao : Option Addr) (l : List Int) (cap : Nat) (n : Int) (w : World) (hs : Sl (IntIn .i64) 1 (mk X w) ao l) (hl : l.length ≤ 1099511627776) :
    Calls Tryz.prog 174 #[.slice ao l.length cap, .int .i64 n] w fun e w' => w = w' ∧ e = .returned (.bool (ascB l n)) := by
  have hh := hs.hd
  go_enter Tryz.func174, Tryz.ntmps174
  go_wp2_with fail
  go_loop [9] (fun c => ∃ i : Nat, c = .int .i64 i ∧ i ≤ l.length ∧ Hid (∀ j, j < i → ascAt l n j = true)) (fun c => l.length - (intOf c).toNat)
  case atStart => exact ⟨0, rfl, Nat.zero_le _, fun j hj => by omega⟩
  case round =>
    obtain ⟨i, rfl, hi, hok⟩ := hrel
    by_cases hlt : i < l.length
    · have hc := hs.int i hlt
      have hc2 := hs.int (i - 1) (by omega)
      have e1 := getD_eq hlt
      have e2 := getD_eq (l := l) (i := i - 1) (by omega)
      obtain ⟨x, hx⟩ : ∃ x, l[i] = x := ⟨_, rfl⟩
      obtain ⟨y, hy⟩ : ∃ y, l[i - 1]'(by omega) = y := ⟨_, rfl⟩
      rw [hx] at hc e1
      rw [hy] at hc2 e2
      have he := hid (ascAt_eq (n := n) e1 e2)
      clear e1 e2 hx hy
      have bad : Hid (ascAt l n i = false → ascB l n = false) := hid fun h => all_range_false i hlt h
      by_cases h1 : x < 0
      · have hv : ascB l n = false := bad.out (by rw [he.out]; simp; omega)
        have hv' := hid hv; clear hv
        go_wp2_with (with_reducible refine up_ix1 slInt (by omega) (by assumption) ?_)
        go_ret
        exact ⟨rfl, ret_bool hv'.out.symm⟩
      by_cases h2 : n ≤ x
      · have hv : ascB l n = false := bad.out (by rw [he.out]; simp; omega)
        have hv' := hid hv; clear hv
        go_wp2_with (with_reducible refine up_ix1 slInt (by omega) (by assumption) ?_)
        go_ret
        exact ⟨rfl, ret_bool hv'.out.symm⟩
      by_cases h3 : 0 < i
      · by_cases h4 : x ≤ y
        · have hv : ascB l n = false := bad.out (by rw [he.out]; simp; omega)
          have hv' := hid hv; clear hv
          go_wp2_with (with_reducible refine up_ix1 slInt (by omega) (by assumption) ?_)
          go_ret
          exact ⟨rfl, ret_bool hv'.out.symm⟩
        · have hg : ascAt l n i = true := by rw [he.out]; simp; omega
          have hg' := hid hg; clear hg
          go_wp2_with (with_reducible refine up_ix1 slInt (by omega) (by assumption) ?_)
          go_round
          case rel => exact ⟨i + 1, by go_num, by omega, upto_succ hok.out hg'.out⟩
          case measure => simp [intOf]; omega
      · have hg : ascAt l n i = true := by rw [he.out]; simp; omega
        have hg' := hid hg; clear hg
        go_wp2_with (with_reducible refine up_ix1 slInt (by omega) (by assumption) ?_)
        go_round
        case rel => exact ⟨i + 1, by go_num, by omega, upto_succ hok.out hg'.out⟩
        case measure => simp [intOf]; omega
    · have hv : Hid (ascB l n = true) := hid (all_range_true fun j hj => hok.out j (by omega))
      go_wp2_with fail
      go_ret
      exact ⟨rfl, ret_bool hv.out.symm⟩

end Go.Proofs.YtjbhcniiioepgaaGreat


namespace Go.Lim

abbrev Leaf := List Int × List Int
/-- The sides of the numbers 0 to n - 1 in a leaf, with the first numbers of each list alone. -/
def sideL (n : Nat) (I O : List Int) : List Int := (List.range n).map fun (i : Nat) => if (i : Int) ∈ I then 1 else if (i : Int) ∈ O then 2 else 0
theorem sideL_length (n : Nat) (I O : List Int) : (sideL n I O).length = n := by simp [sideL]
theorem sideL_get (n : Nat) (I O : List Int) (p : Nat) (h : p < (sideL n I O).length) : (sideL n I O)[p] = if (p : Int) ∈ I then 1 else if (p : Int) ∈ O then 2 else 0 := by simp [sideL]
theorem sideL_zero (n : Nat) : sideL n [] [] = List.replicate n 0 := by
  apply List.ext_getElem
  · simp [sideL]
  · intro i h1 h2; rw [sideL_get]; simp
theorem sideL_in {n : Nat} {I : List Int} {k : Nat} (hk : k < I.length) {x : Nat} (hx : I[k] = (x : Int)) : (sideL n (I.take k) []).set x 1 = sideL n (I.take (k + 1)) [] := by
  apply List.ext_getElem
  · simp [sideL]
  · intro i h1 h2
    rw [List.getElem_set, sideL_get, sideL_get, List.take_succ_eq_append_getElem hk, hx]
    by_cases h : x = i
    · subst h; simp
    · have : ¬ (i : Int) = (x : Int) := by omega
      simp [h, this]
theorem sideL_out {n : Nat} {I O : List Int} {k : Nat} (hk : k < O.length) {x : Nat} (hx : O[k] = (x : Int)) (hI : ¬ (x : Int) ∈ I) : (sideL n I (O.take k)).set x 2 = sideL n I (O.take (k + 1)) := by
  apply List.ext_getElem
  · simp [sideL]
  · intro i h1 h2
    rw [List.getElem_set, sideL_get, sideL_get, List.take_succ_eq_append_getElem hk, hx]
    by_cases h : x = i
    · subst h; simp [hI]
    · have : ¬ (i : Int) = (x : Int) := by omega
      simp [h, this]

theorem ascB_iff {l : List Int} {n : Int} : ascB l n = true ↔ ∀ i, i < l.length → ascAt l n i = true := all_range_iff
theorem ascB_get {l : List Int} {n : Int} (h : ascB l n = true) (i : Nat) (hi : i < l.length) : 0 ≤ l[i] ∧ l[i] < n := by
  have := ascB_iff.1 h i hi
  simp only [ascAt, getD_eq hi, Bool.and_eq_true, decide_eq_true_eq] at this
  exact this.1
theorem ascB_mem {l : List Int} {n : Int} (h : ascB l n = true) {x : Int} (hx : x ∈ l) : 0 ≤ x ∧ x < n := by
  obtain ⟨i, hi, rfl⟩ := List.getElem_of_mem hx
  exact ascB_get h i hi
theorem ascB_step {l : List Int} {n : Int} (h : ascB l n = true) (i : Nat) (hi : i + 1 < l.length) : l[i]'(by omega) < l[i + 1] := by
  have := ascB_iff.1 h (i + 1) hi
  simp only [ascAt, getD_eq hi, Nat.add_sub_cancel, getD_eq (show i < l.length by omega), Bool.and_eq_true, Bool.or_eq_true, decide_eq_true_eq] at this
  rcases this.2 with h | h
  · omega
  · exact h
theorem ascB_lt {l : List Int} {n : Int} (h : ascB l n = true) : ∀ (i j : Nat) (hij : i < j) (hj : j < l.length), l[i]'(by omega) < l[j] := by
  intro i j hij hj
  obtain ⟨d, rfl⟩ : ∃ d, j = i + 1 + d := ⟨j - i - 1, by omega⟩
  induction d with
  | zero => exact ascB_step h i hj
  | succ d ih =>
    have h1 := ih (by omega) (by omega)
    have h2 := ascB_step h (i + 1 + d) hj
    exact Int.lt_trans h1 h2
def leafOk (n h : Int) (x : Leaf) : Bool := ascB x.1 n && ascB x.2 n && decide ((x.1.length : Int) ≤ h) && decide ((x.2.length : Int) ≤ n - h) && !meets x.1 x.2
def apartL (x y : Leaf) : Bool := meets x.1 y.2 || meets x.2 y.1
/-- The leaf at place k is well-formed, and apart from those before it. -/
def goodAt (n h : Int) (L : List Leaf) (k : Nat) : Bool := leafOk n h (L.getD k ([], [])) && (List.range k).all fun j => apartL (L.getD k ([], [])) (L.getD j ([], []))
def sumL (n h : Nat) (L : List Leaf) : Nat := (L.map fun x => ch (n - x.1.length - x.2.length) (h - x.1.length)).sum
def coverB (n h : Int) (L : List Leaf) : Bool :=
  decide (1 ≤ n) && decide (n ≤ 64) && decide (0 ≤ h) && decide (h ≤ n) && decide (L.length ≤ 4096) && (List.range L.length).all (goodAt n h L) && decide (sumL n.toNat h.toNat L = ch n.toNat h.toNat)

/-- What the program asks of two lists of sides. -/
def apartS (a b : List Int) : Bool := (List.range a.length).any fun i => (a.getD i 0 + b.getD i 0 == 3) && (a.getD i 0 != 0) && (b.getD i 0 != 0)
theorem any_range_false {n : Nat} {p : Nat → Bool} (h : ∀ i, i < n → p i = false) : (List.range n).any p = false := by
  rw [List.any_eq_false]; intro i hi; simp [h i (by simpa using hi)]
theorem any_range_true {n : Nat} {p : Nat → Bool} (i : Nat) (h : i < n) (hp : p i = true) : (List.range n).any p = true := by
  rw [List.any_eq_true]; exact ⟨i, by simpa using h, hp⟩
theorem apartS_sides {n h : Nat} {x y : Leaf} (hx : leafOk n h x = true) (hy : leafOk n h y = true) : apartS (sideL n x.1 x.2) (sideL n y.1 y.2) = apartL x y := by
  simp only [leafOk, Bool.and_eq_true, Bool.not_eq_true'] at hx hy
  obtain ⟨⟨⟨⟨hx1, hx2⟩, _⟩, _⟩, hx5⟩ := hx
  obtain ⟨⟨⟨⟨hy1, hy2⟩, _⟩, _⟩, hy5⟩ := hy
  rw [Bool.eq_iff_iff]
  unfold apartS apartL
  simp only [List.any_eq_true, List.mem_range, sideL_length, Bool.or_eq_true, meets_iff, Bool.and_eq_true, beq_iff_eq, bne_iff_ne]
  constructor
  · rintro ⟨i, hi, ⟨h1, h2⟩, h3⟩
    rw [getD_eq (by rw [sideL_length]; exact hi), sideL_get] at h1 h2
    rw [getD_eq (by rw [sideL_length]; exact hi), sideL_get] at h1 h3
    by_cases a1 : (i : Int) ∈ x.1 <;> by_cases a2 : (i : Int) ∈ x.2 <;> by_cases a3 : (i : Int) ∈ y.1 <;> by_cases a4 : (i : Int) ∈ y.2 <;> simp [a1, a2, a3, a4] at h1 h2 h3
    all_goals first | exact .inl ⟨i, a1, a4⟩ | exact .inr ⟨i, a2, a3⟩
  · rintro (⟨v, h1, h2⟩ | ⟨v, h1, h2⟩)
    · obtain ⟨hv0, hvn⟩ := ascB_mem hx1 h1
      obtain ⟨i, rfl⟩ := Int.eq_ofNat_of_zero_le hv0
      have hny : ¬ (i : Int) ∈ y.1 := fun h3 => by rw [meets_iff.2 ⟨_, h3, h2⟩] at hy5; simp at hy5
      refine ⟨i, by omega, ?_⟩
      rw [getD_eq (by rw [sideL_length]; omega), getD_eq (by rw [sideL_length]; omega), sideL_get, sideL_get]
      simp [h1, h2, hny]
    · obtain ⟨hv0, hvn⟩ := ascB_mem hx2 h1
      obtain ⟨i, rfl⟩ := Int.eq_ofNat_of_zero_le hv0
      have hnx : ¬ (i : Int) ∈ x.1 := fun h3 => by rw [meets_iff.2 ⟨_, h3, h1⟩] at hx5; simp at hx5
      refine ⟨i, by omega, ?_⟩
      rw [getD_eq (by rw [sideL_length]; omega), getD_eq (by rw [sideL_length]; omega), sideL_get, sideL_get]
      simp [h1, h2, hnx]

theorem sideL_range (n : Nat) (I O : List Int) : ∀ i (h : i < (sideL n I O).length), 0 ≤ (sideL n I O)[i] ∧ (sideL n I O)[i] ≤ 2 := by
  intro i h
  rw [sideL_get]
  split
  · omega
  · split <;> omega
def sidesL (n : Nat) (L : List Leaf) : List (List Int) := L.map fun x => sideL n x.1 x.2
theorem sidesL_length (n : Nat) (L : List Leaf) : (sidesL n L).length = L.length := by simp [sidesL]
theorem sidesL_get (n : Nat) (L : List Leaf) (i : Nat) (h : i < (sidesL n L).length) : (sidesL n L)[i] = sideL n (L[i]'(by simpa [sidesL] using h)).1 (L[i]'(by simpa [sidesL] using h)).2 := by simp [sidesL]
theorem sidesL_take (n : Nat) (L : List Leaf) (k : Nat) (hk : k < L.length) : sidesL n (L.take (k + 1)) = sidesL n (L.take k) ++ [sideL n L[k].1 L[k].2] := by
  simp only [sidesL, List.take_succ_eq_append_getElem hk, List.map_append, List.map_cons, List.map_nil]
theorem sumL_take (n h : Nat) (L : List Leaf) (k : Nat) (hk : k < L.length) : sumL n h (L.take (k + 1)) = sumL n h (L.take k) + ch (n - L[k].1.length - L[k].2.length) (h - L[k].1.length) := by
  simp only [sumL, List.take_succ_eq_append_getElem hk, List.map_append, List.map_cons, List.map_nil, List.sum_append, List.sum_cons, List.sum_nil, Nat.add_zero]
theorem getD_leaf {L : List Leaf} {k : Nat} (hk : k < L.length) : L.getD k ([], []) = L[k] := by simp [List.getD, hk]
theorem leafOk_parts {N H : Nat} {I O : List Int} (h : leafOk N H (I, O) = true) : ascB I N = true ∧ ascB O N = true ∧ I.length ≤ H ∧ O.length + H ≤ N ∧ meets I O = false := by
  simp only [leafOk, Bool.and_eq_true, Bool.not_eq_true', decide_eq_true_eq] at h
  obtain ⟨⟨⟨⟨h1, h2⟩, h3⟩, h4⟩, h5⟩ := h
  exact ⟨h1, h2, by omega, by omega, h5⟩
theorem goodAt_bad {N H : Int} {L : List Leaf} {k : Nat} {x : Leaf} (hk : k < L.length) (hx : L[k] = x) (h : leafOk N H x = false) : goodAt N H L k = false := by
  unfold goodAt; rw [getD_leaf hk, hx, h]; rfl
theorem goodAt_not {N H : Int} {L : List Leaf} {k j : Nat} {x : Leaf} (hk : k < L.length) (hx : L[k] = x) (hj : j < k) (h : apartL x (L[j]'(by omega)) = false) : goodAt N H L k = false := by
  unfold goodAt
  rw [all_range_false j hj (by rw [getD_leaf hk, getD_leaf (by omega), hx]; exact h), Bool.and_false]
theorem goodAt_yes {N H : Int} {L : List Leaf} {k : Nat} {x : Leaf} (hk : k < L.length) (hx : L[k] = x) (h1 : leafOk N H x = true) (h : ∀ j (hj : j < k), apartL x (L[j]'(by omega)) = true) : goodAt N H L k = true := by
  unfold goodAt
  rw [getD_leaf hk, hx, h1, Bool.true_and]
  exact all_range_true fun j hj => by rw [getD_leaf (by omega)]; exact h j hj
theorem goodAt_ok {N H : Int} {L : List Leaf} {k : Nat} (hk : k < L.length) (h : goodAt N H L k = true) : leafOk N H L[k] = true := by
  unfold goodAt at h; rw [getD_leaf hk, Bool.and_eq_true] at h; exact h.1
theorem sumL_lt {N H : Nat} (hN : N ≤ 64) (L : List Leaf) : sumL N H L ≤ L.length * 2 ^ 64 := by
  induction L with
  | nil => simp [sumL]
  | cons x L ih =>
    have h1 := ch_le (N - x.1.length - x.2.length) (H - x.1.length)
    have h2 : (2 : Nat) ^ (N - x.1.length - x.2.length) ≤ 2 ^ 64 := Nat.pow_le_pow_right (by decide) (by omega)
    simp only [sumL, List.map_cons, List.sum_cons, List.length_cons] at ih ⊢
    omega
theorem lg_sumL {N H : Nat} (hN : N ≤ 64) (L : List Leaf) (hL : L.length ≤ 4096) : lg (sumL N H L) ≤ 3 := by
  rw [lg_le, B_two]
  have := sumL_lt (H := H) hN L
  have h2 : L.length * 2 ^ 64 ≤ 4096 * 2 ^ 64 := Nat.mul_le_mul_right _ hL
  have h3 : 4096 * 2 ^ 64 < 2 ^ (32 * 3) := by decide
  omega
end Go.Lim


namespace Go.Rep
open Go.RowKit Go.Lim

/-- A leaf: two lists of integers. -/
def LeafR : Mem → Value → Leaf → Prop := fun h u x => ∃ a1 c1 a2 c2, u = .agg #[.slice a1 x.1.length c1, .slice a2 x.2.length c2] ∧ x.1.length ≤ c1 ∧ x.2.length ≤ c2 ∧ Sl (IntIn .i64) 1 h a1 x.1 ∧ Sl (IntIn .i64) 1 h a2 x.2
theorem LeafR.mono : Mono LeafR := by
  rintro h h' u x hl ⟨a1, c1, a2, c2, rfl, h1, h2, h3, h4⟩
  exact ⟨a1, c1, a2, c2, rfl, h1, h2, h3.mono (IntIn.mono _) hl, h4.mono (IntIn.mono _) hl⟩
theorem LeafR.elem : Elem LeafR 2 := ⟨LeafR.mono, by rintro h u x ⟨a1, c1, a2, c2, rfl, _⟩; rfl, by
  rintro h u x ⟨a1, c1, a2, c2, rfl, _⟩ c hc
  simp [cellsL, Value.cells] at hc
  rcases hc with rfl | rfl <;> rfl, by decide⟩
theorem Sl.leaf {X : Nat → Bool} {w : World} {ao : Option Addr} {l : List Leaf} (s : Sl LeafR 2 (mk X w) ao l) (i : Nat) (hi : i < l.length) :
    ∃ a1 c1 a2 c2, w.cell? (adr ao (i * 2)) = some (.slice a1 l[i].1.length c1) ∧ w.cell? (adr ao (i * 2 + 1)) = some (.slice a2 l[i].2.length c2) ∧ l[i].1.length ≤ c1 ∧ l[i].2.length ≤ c2 ∧ Sl (IntIn .i64) 1 (mk X w) a1 l[i].1 ∧ Sl (IntIn .i64) 1 (mk X w) a2 l[i].2 := by
  obtain ⟨u, h1, h2, a1, c1, a2, c2, rfl, h3, h4, h5, h6⟩ := s.2 i hi
  exact ⟨a1, c1, a2, c2, mk_cell (h2 0 (by simp [Value.cells])), mk_cell (h2 1 (by simp [Value.cells])), h3, h4, h5, h6⟩
/-- What is read outside of X and of a list's own block is still read outside of it behind a step on that list. -/
theorem Sl.unstep {α : Type} {R : Mem → Value → α → Prop} (hR : Mono R) {sz : Nat} {X : Nat → Bool} {w w' : World} {oo oo' ao : Option Addr} {l : List α} (s : Sl R sz (mk (un X oo) w) ao l) (hE : ExtX (ob oo) w w') (ho : oo' = oo ∨ ∃ g, oo' = some ⟨g, 0, none⟩ ∧ w.heap.size ≤ g) : Sl R sz (mk (un X oo') w') ao l :=
  s.mono hR (mkun_over hE ho)
theorem Sl.unX {α : Type} {R : Mem → Value → α → Prop} (hR : Mono R) {sz : Nat} {X : Nat → Bool} {w : World} {oo ao : Option Addr} {l : List α} (s : Sl R sz (mk (un X oo) w) ao l) : Sl R sz (mk X w) ao l :=
  s.mono hR (mk_sub fun _ _ hk => un_left hk)
/-- A reading from before the own block was made. -/
theorem Sl.old {α : Type} {R : Mem → Value → α → Prop} (hR : Mono R) {sz : Nat} {X : Nat → Bool} {w w' : World} {oo ao : Option Addr} {l : List α} (s : Sl R sz (mk X w) ao l) (hE : Ext w w') (hb : ∀ j, j < w.heap.size → ob oo j = false) : Sl R sz (mk (un X oo) w') ao l :=
  s.mono hR (mk_over hE (fun k _ hk => by simp [noY] at hk) fun j hk hz => by simpa [un, hb j hk] using hz)

/-- A struct type of the program: its cells. -/
def StructT (P : Program) (t sz : Nat) : Prop := ∃ fs ti, P.underlying t = some (.struct fs) ∧ P.info? t = some ti ∧ ti.size = sz

section
variable {P : Program} {ops : Array Oper} {Q : Exit → Act → World → Prop} {rest : List Oper} {a : Act} {w : World}
variable {α : Type} {R : Mem → Value → α → Prop} {sz : Nat} {X : Nat → Bool} {ao : Option Addr} {l : List α}
variable {d : Option Tmp} {ty : TypeId} {ps : String} {af : Array Edge}

/-- A load of a struct out of a list of structs. -/
theorem st_loadElem {t : TypeId} {x : Operand} {k : Nat} (hT : StructT P t sz) (i : Nat) (hs : Sl R sz (mk X w) ao l) (hi : i < l.length) (hx : a.eval x = .pointer (some (adr ao k))) (hk : k = i * sz) (hag : ∀ h u y, R h u y → ∃ cs, u = .agg cs)
    (K : ∀ u, R (mk X w) u l[i] → wpList P ops Q rest (a.put d u) w) :
    wpList P ops Q (⟨d, .load t x, ty, ps, af, none⟩ :: rest) a w := by
  refine wpList_plain rfl fun K' hK' => ?_
  subst hk
  obtain ⟨fs, ti, h1, h2, h3⟩ := hT
  obtain ⟨u, h4, h5, h6⟩ := hs.2 i hi
  obtain ⟨cs, rfl⟩ := hag _ _ _ h6
  have hl := run_loadCells_list (P := P) w (adr ao (i * sz)) cs.toList (fun j v hj => by
    rw [adr_add]
    obtain ⟨hj1, hj2⟩ := List.getElem?_eq_some_iff.1 hj
    have := mk_cell (h5 j (by simpa [Value.cells] using hj1))
    rw [this]
    simp [Value.cells] at hj2 ⊢
    exact hj2)
  have hsz : cs.toList.length = sz := by simpa [Value.cells] using h4
  rw [hsz] at hl
  unfold Oper.wp
  simp [execOp, hx, Instr.loadAt, Instr.sureAddr, loadVar, isAgg, run_underlying h1, sizeOf, typeInfo, h2, h3, hl, Result.andThen]
  exact hK' _ _ (K _ h6)
end
theorem LeafR.agg : ∀ h u y, LeafR h u y → ∃ cs, u = .agg cs := by rintro h u y ⟨a1, c1, a2, c2, rfl, _⟩; exact ⟨_, rfl⟩
theorem OL.ob_ge {α : Type} {R : Mem → Value → α → Prop} {sz : Nat} {X : Nat → Bool} {base : Nat} {e : TypeId} {w : World} {ao : Option Addr} {cap : Nat} {l : List α} (h : OL R sz X base e w ao cap l) {k : Nat} (hk : w.heap.size ≤ k) : ob ao k = false := by
  cases hb : ob ao k
  · rfl
  · have := h.block hb; omega
/-- append(s, x) of one element, where the slice's length is written otherwise. -/
theorem st_append1n {P : Program} {ops : Array Oper} {Q : Exit → Act → World → Prop} {rest : List Oper} {a : Act} {w : World} {α : Type} {R : Mem → Value → α → Prop} {sz : Nat} {X : Nat → Bool} {base : Nat} {e : TypeId} {ao : Option Addr} {cap : Nat} {l : List α} {d : Option Tmp} {ty : TypeId} {ps : String} {af : Array Edge}
    {t by_ : Nat} {z : Value} {arr : Array Value} {s x : Operand} (T : SliceT P t e sz by_ z) (hzs : z.cells.size = sz) (hR : Elem R sz) (hbase : base ≤ w.heap.size) (hX : ∀ k, X k = true → k < w.heap.size) (n : Nat) (hn : l.length = n)
    (hs : a.eval s = .slice ao n cap) (hx : a.eval x = .slice (some ⟨w.heap.size, 0, none⟩) 1 1) (h : OL R sz X base e w ao cap l)
    (u : Value) (y : α) (harr : arr = u.cells) (hu : R (mk (un X ao) w) u y) (hroom : (n + 1) * by_ ≤ 140737488355328) (hmax : n + 1 ≤ 9223372036854775807)
    (K : ∀ ao' cap' w', OL R sz X base e w' ao' cap' (l ++ [y]) → ExtX (ob ao) w w' → (ao' = ao ∨ ∃ g, ao' = some ⟨g, 0, none⟩ ∧ w.heap.size ≤ g) → wpList P ops Q rest (a.put d (.slice ao' (n + 1) cap')) w') :
    wpList P ops Q (⟨d, .call { callee := .builtin .append, args := #[s, x], argTypes := #[t, t] }, ty, ps, af, none⟩ :: rest) a (w.alloc (.cells arr e)) := by
  subst hn
  exact st_append1 T hzs hR hbase hX hs hx h u y harr hu hroom hmax fun ao' cap' w' h1 h2 h3 => by
    have := K ao' cap' w' h1 h2 h3
    rwa [show l.length + 1 = (l ++ [y]).length from by simp] at this
end Go.Rep


namespace Go.Proofs.YtjbhcniiioepgaaGreat
open Go.RowKit Go.Rep Go.Lim

/-- The tape's own block. -/
def tbm (tb : Nat) : Nat → Bool := fun k => k == tb
theorem tbm_self (tb : Nat) : tbm tb tb = true := by simp [tbm]
theorem tbm_ne {tb k : Nat} (h : k ≠ tb) : tbm tb k = false := by simpa [tbm] using h
/-- A tape lies in block tb. -/
def TapeR (X : Nat → Bool) (tb : Nat) (w : World) : Prop :=
  X tb = true ∧ ∃ (lo : Option Addr) (l : List Int) (cap at_ : Nat), w.heap[tb]? = some (.cells #[.slice lo l.length cap, .int .i64 (at_ : Int)] 98 (0, 0)) ∧ l.length ≤ 400 ∧ at_ ≤ l.length ∧ Sl (IntIn .i64) 1 (mk X w) lo l
theorem tbm_sub {X : Nat → Bool} {tb : Nat} (h : X tb = true) : ∀ k, tbm tb k = true → X k = true := fun k hk => by
  have : k = tb := by simpa [tbm] using hk
  rw [this]; exact h
theorem TapeR.lt {X : Nat → Bool} {tb : Nat} {w : World} (h : TapeR X tb w) : tb < w.heap.size := by
  obtain ⟨_, lo, l, cap, at_, h1, _⟩ := h
  by_cases hl : tb < w.heap.size
  · exact hl
  · rw [Array.getElem?_eq_none (by omega)] at h1; simp at h1
theorem TapeR.ext {X : Nat → Bool} {tb : Nat} {w w' : World} (h : TapeR X tb w) (hE : Ext w w') : TapeR X tb w' := by
  have hlt := h.lt
  obtain ⟨hX, lo, l, cap, at_, h1, h2, h3, h4⟩ := h
  exact ⟨hX, lo, l, cap, at_, by rw [hE.block tb hlt rfl]; exact h1, h2, h3, h4.mono (IntIn.mono _) (mk_ext hE)⟩
theorem TapeR.extY {X Y : Nat → Bool} {tb : Nat} {w w' : World} (h : TapeR X tb w) (hE : ExtX Y w w') (hY : ∀ k, Y k = true → X k = true) (ht : Y tb = false) : TapeR X tb w' := by
  have hlt := h.lt
  obtain ⟨hX, lo, l, cap, at_, h1, h2, h3, h4⟩ := h
  exact ⟨hX, lo, l, cap, at_, by rw [hE.block tb hlt ht]; exact h1, h2, h3, h4.mono (IntIn.mono _) (mk_mono hE hY)⟩

/-- A number from 0 to n - 1 is drawn, 0 if n is less than 1. -/
def NextOut (X : Nat → Bool) (tb : Nat) (w : World) (n : Int) (e : Ending) (w' : World) : Prop :=
  ExtX (tbm tb) w w' ∧ TapeR X tb w' ∧ ∃ m : Nat, e = .returned (.int .i64 (m : Int)) ∧ ((m : Int) < n ∨ m = 0)

theorem tmod_any (v n : Int) (w : World) (h1 : 1 ≤ n) (h2 : n ≤ 1099511627776) :
    Calls Tryz.prog 88 #[.int .i64 v, .int .i64 n] w (fun e w' => e = .returned (.int .i64 (v % n)) ∧ w' = w) := by
  have hn0 : (n == 0) = false := beqF (by omega)
  have hlo : -n < v.tmod n := Int.lt_tmod_of_pos v (by omega)
  have hhi : v.tmod n < n := Int.tmod_lt_of_pos v (by omega)
  have hem : (v.tmod n < 0 → v.tmod n + n = v % n) ∧ (0 ≤ v.tmod n → v.tmod n = v % n) := by
    have h := Int.tmod_eq_emod (a := v) (b := n)
    have e0 := Int.emod_nonneg v (show n ≠ 0 by omega)
    have e1 := Int.emod_lt_of_pos v (show 0 < n by omega)
    split at h <;> omega
  have hem' := hid hem
  clear hem
  go_enter Tryz.func88, Tryz.ntmps88
  go_wp2_with fail
  · go_ret
    exact ⟨ret_int (hem'.out.1 (by assumption)), rfl⟩
  · go_ret
    exact ⟨ret_int (hem'.out.2 (by assumption)), rfl⟩

theorem TapeR.cells {X : Nat → Bool} {tb : Nat} {w : World} (h : TapeR X tb w) : ∃ (lo : Option Addr) (l : List Int) (cap at_ : Nat), w.cell? ⟨tb, 0, none⟩ = some (.slice lo l.length cap) ∧ w.cell? ⟨tb, 1, none⟩ = some (.int .i64 (at_ : Int)) ∧ w.frozen? ⟨tb, 1, none⟩ = false ∧ l.length ≤ 400 ∧ at_ ≤ l.length ∧ Sl (IntIn .i64) 1 (mk X w) lo l ∧
    ∀ at' : Nat, at' ≤ l.length → TapeR X tb (w.setCell ⟨tb, 1, none⟩ (.int .i64 (at' : Int))) ∧ ExtX (tbm tb) w (w.setCell ⟨tb, 1, none⟩ (.int .i64 (at' : Int))) ∧
      (w.setCell ⟨tb, 1, none⟩ (.int .i64 (at' : Int))).cell? ⟨tb, 0, none⟩ = some (.slice lo l.length cap) ∧ (w.setCell ⟨tb, 1, none⟩ (.int .i64 (at' : Int))).cell? ⟨tb, 1, none⟩ = some (.int .i64 (at' : Int)) := by
  have hlt := h.lt
  obtain ⟨hX, lo, l, cap, at_, h1, h2, h3, h4⟩ := h
  refine ⟨lo, l, cap, at_, by simp [World.cell?, h1], by simp [World.cell?, h1], by simp [World.frozen?, h1], h2, h3, h4, fun at' ha => ?_⟩
  have hE : ExtX (tbm tb) w (w.setCell ⟨tb, 1, none⟩ (.int .i64 (at' : Int))) :=
    ⟨rfl, rfl, rfl, by simp [World.setCell], fun k hk hy => Below.heap_setCell _ _ _ _ (fun e => by subst e; simp [tbm] at hy)⟩
  have hn : (w.setCell ⟨tb, 1, none⟩ (.int .i64 (at' : Int))).heap[tb]? = some (.cells #[.slice lo l.length cap, .int .i64 (at' : Int)] 98 (0, 0)) := by
    simp only [World.setCell, Array.getElem?_modify, h1]
    simp
  exact ⟨⟨hX, lo, l, cap, at', hn, h2, ha, h4.mono (IntIn.mono _) (mk_mono hE (tbm_sub hX))⟩, hE, by unfold World.cell?; rw [hn]; rfl, by unfold World.cell?; rw [hn]; rfl⟩

theorem TapeR.drewN {X : Nat → Bool} {tb : Nat} {w : World} (h : TapeR X tb w) (n : Nat) : TapeR X tb (w.drewN n) := h

set_option maxHeartbeats 800000 in
theorem next_any (X : Nat → Bool) (tb : Nat) (n : Int) (w : World) (ht : TapeR X tb w) (hn : n ≤ 1099511627776) :
    Calls Tryz.prog 28 #[.pointer (some ⟨tb, 0, none⟩), .int .i64 n] w (NextOut X tb w n) := by
  obtain ⟨lo, l, cap, at_, c0, c1, f1, hl, hat, hs, hset⟩ := ht.cells
  have hh := hs.hd
  by_cases h1 : n < 1
  · have hd : decide (n < 1) = true := decide_eq_true h1
    go_enter Tryz.func28, Tryz.ntmps28
    go_wp2_with fail
    go_quiet (fail)
    go_wp2_with fail
    go_ret
    exact ⟨(ExtX.refl _).drewN _, ht.drewN _, 0, rfl, .inr rfl⟩
  have hd : decide (n < 1) = false := decide_eq_false h1
  by_cases h2 : at_ < l.length
  · obtain ⟨ht2, hE2, k0, k1⟩ := hset (at_ + 1) (by omega)
    have hs2 := (hs.mono (IntIn.mono _) (mk_mono hE2 (tbm_sub ht.1))).int at_ h2
    obtain ⟨x, hx⟩ : ∃ x, l[at_] = x := ⟨_, rfl⟩
    rw [hx] at hs2
    clear hx hset
    have e1 : ((at_ + 1 : Nat) : Int) = (at_ : Int) + 1 := by omega
    rw [e1] at k0 k1 hs2 ht2 hE2
    have kk0 : ∀ N, ((w.drewN N).setCell ⟨tb, 1, none⟩ (.int .i64 ((at_ : Int) + 1))).cell? ⟨tb, 0, none⟩ = some (.slice lo l.length cap) := fun _ => k0
    have kk1 : ∀ N, ((w.drewN N).setCell ⟨tb, 1, none⟩ (.int .i64 ((at_ : Int) + 1))).cell? ⟨tb, 1, none⟩ = some (.int .i64 ((at_ : Int) + 1)) := fun _ => k1
    have kk2 : ∀ N, ((w.drewN N).setCell ⟨tb, 1, none⟩ (.int .i64 ((at_ : Int) + 1))).cell? (adr lo at_) = some (.int .i64 x) := fun _ => hs2
    have ew : IntKind.i64.wrap ((at_ : Int) + 1 - 1) = (at_ : Int) := by rw [IntWalk.i64_in _ (by omega)]; omega
    have ht3 : ∀ N, TapeR X tb ((w.drewN N).setCell ⟨tb, 1, none⟩ (.int .i64 ((at_ : Int) + 1))) := fun _ => ht2
    have hE3 : ∀ N, ExtX (tbm tb) w ((w.drewN N).setCell ⟨tb, 1, none⟩ (.int .i64 ((at_ : Int) + 1))) := fun _ => ⟨hE2.os, hE2.tape, hE2.output, hE2.size, hE2.block⟩
    have ht4 := hid ht3
    have hE4 := hid hE3
    clear e1 ht2 hE2 k0 k1 ht3 hE3
    have hd2 : decide ((l.length : Int) ≤ (at_ : Int)) = false := decide_eq_false (by omega)
    have i1 : ∀ W, (Instr.indexAt 22 (.slice lo l.length cap) (.int .i64 (at_ : Int))).run Tryz.prog W = .ok (.pointer (some (adr lo at_))) W := run_ix1 slInt lo l.length cap .i64 at_ hh h2 rfl
    go_enter Tryz.func28, Tryz.ntmps28
    go_wp2_with fail
    go_quiet (fail)
    go_wp2_with fail
    have hm0 := Int.emod_nonneg x (show n ≠ 0 by omega)
    have hm1 := Int.emod_lt_of_pos x (show 0 < n by omega)
    obtain ⟨m, hm⟩ := Int.eq_ofNat_of_zero_le hm0
    have hm' := hid hm
    have hm2 : Hid ((m : Int) < n) := hid (by rw [← hm]; exact hm1)
    clear hm hm0 hm1
    go_quiet ((go_at_call 88; exact Calls.quiet_of_same (tmod_any x n _ (by omega) (by omega))))
    go_wp2_with fail
    go_ret
    exact ⟨(hE4.out _).drewN _, (ht4.out _).drewN _, m, ret_int hm'.out, .inl hm2.out⟩
  · have hd2 : decide ((l.length : Int) ≤ (at_ : Int)) = true := decide_eq_true (by omega)
    go_enter Tryz.func28, Tryz.ntmps28
    go_wp2_with fail
    go_quiet (fail)
    go_wp2_with fail
    go_ret
    exact ⟨(ExtX.refl _).drewN _, ht.drewN _, 0, rfl, .inr rfl⟩
end Go.Proofs.YtjbhcniiioepgaaGreat


namespace Go.Proofs.YtjbhcniiioepgaaGreat
open Go.RowKit Go.Rep Go.Lim

/-- A bool is drawn. -/
def TBoolOut (X : Nat → Bool) (tb : Nat) (w : World) (e : Ending) (w' : World) : Prop := ExtX (tbm tb) w w' ∧ TapeR X tb w' ∧ ∃ b : Bool, e = .returned (.bool b)
/-- An int from lo to hi is drawn. -/
def TIntOut (X : Nat → Bool) (tb : Nat) (w : World) (lo hi : Int) (e : Ending) (w' : World) : Prop := ExtX (tbm tb) w w' ∧ TapeR X tb w' ∧ ∃ m : Int, e = .returned (.int .i64 m) ∧ lo ≤ m ∧ m ≤ hi

theorem tbool_any (X : Nat → Bool) (tb : Nat) (n : Int) (w : World) (ht : TapeR X tb w) (h1 : -1000 ≤ n) (hn : n ≤ 1099511627776) :
    Calls Tryz.prog 67 #[.pointer (some ⟨tb, 0, none⟩), .int .i64 n] w (TBoolOut X tb w) := by
  go_enter Tryz.func67, Tryz.ntmps67
  go_wp2_with fail
  refine (next_any X tb n _ ht hn).mono ?_
  rintro e w1 ⟨hE, ht1, m, rfl, hm⟩
  go_wp2_with fail
  go_ret
  exact ⟨hE, ht1, _, rfl⟩

theorem pick_any (X : Nat → Bool) (tb : Nat) (lo : Option Addr) (l : List Int) (cap : Nat) (w : World) (a b : Int) (ht : TapeR X tb w) (hs : Sl (IntIn .i64) 1 (mk X w) lo l) (h0 : 0 < l.length) (hl : l.length ≤ 1000) (hab : Hid (∀ x ∈ l, a ≤ x ∧ x ≤ b)) :
    Calls Tryz.prog 86 #[.pointer (some ⟨tb, 0, none⟩), .slice lo l.length cap] w (TIntOut X tb w a b) := by
  have hh := hs.hd
  go_enter Tryz.func86, Tryz.ntmps86
  go_wp2_with fail
  refine (next_any X tb _ _ ht (by omega)).mono ?_
  rintro e w1 ⟨hE, ht1, m, rfl, hm⟩
  have hml : m < l.length := by omega
  have hc := (hs.mono (IntIn.mono _) (mk_mono hE (tbm_sub ht.1))).int m hml
  have hr := hab.out l[m] (List.getElem_mem hml)
  obtain ⟨x, hx⟩ : ∃ x, l[m] = x := ⟨_, rfl⟩
  rw [hx] at hc hr
  clear hx
  go_wp2_with (with_reducible refine up_ix1 slInt (by omega) (by assumption) ?_)
  go_ret
  exact ⟨hE, ht1, x, rfl, hr.1, hr.2⟩

theorem tnew_any (lo : Option Addr) (l : List Int) (cap : Nat) (w : World) (hs : Sl (IntIn .i64) 1 w.cell? lo l) (hl : l.length ≤ cap) (hb : l.length ≤ 9223372036854775807) :
    Calls Tryz.prog 25 #[.slice lo l.length cap] w (fun e w' => e = .returned (.pointer (some ⟨w.heap.size, 0, none⟩)) ∧ Ext w w' ∧ TapeR (tbm w.heap.size) w.heap.size w' ∧ w'.heap.size = w.heap.size + 1) := by
  have key : ∀ (l : List Int), l.length ≤ 400 → Sl (IntIn .i64) 1 w.cell? lo l → TapeR (tbm w.heap.size) w.heap.size (w.alloc (.cells #[.slice lo l.length cap, .int .i64 0] 98)) := by
    intro l hl hs
    refine ⟨tbm_self _, lo, l, cap, 0, heap_alloc_new w _, hl, Nat.zero_le _, ?_⟩
    rw [← mk_noY] at hs
    refine hs.mono (IntIn.mono _) (mk_over ((ExtX.refl (Y := noY) w).alloc _) (fun k _ hk => by simp [noY] at hk) fun k hk hz => ?_)
    have : k = w.heap.size := by simpa [tbm] using hz
    omega
  have hE : ∀ u v, Ext w (w.alloc (.cells #[u, v] 98)) := fun u v => (ExtX.refl w).alloc _
  by_cases h4 : 400 < l.length
  · have ht := hid (key (l.take 400) (by simp; omega) (hs.take 400))
    have hlen : (l.take 400).length = 400 := by simp; omega
    rw [hlen] at ht
    clear key hlen
    go_enter Tryz.func25, Tryz.ntmps25
    go_wp2_with fail
    go_ret
    exact ⟨rfl, hE _ _, ht.out, by simp⟩
  · have ht := hid (key l (by omega) hs)
    clear key
    go_enter Tryz.func25, Tryz.ntmps25
    go_wp2_with fail
    go_ret
    exact ⟨rfl, hE _ _, ht.out, by simp⟩

theorem lit_cells (l : List Int) : (l.map (Value.int .i64)).flatMap cellsL = l.map (Value.int .i64) := by
  induction l with
  | nil => rfl
  | cons x l ih => simp only [List.map_cons, List.flatMap_cons, ih]; rfl

theorem lit_sl (X : Nat → Bool) (w : World) (l : List Int) (e : TypeId) (arr : Array Value) (harr : arr = (l.map (Value.int .i64)).toArray) (hX : ∀ k, X k = true → k < w.heap.size) (hl : l.length ≤ 1000) :
    OL (IntIn .i64) 1 X w.heap.size e (w.alloc (.cells arr e)) (some ⟨w.heap.size, 0, none⟩) l.length l := by
  refine OL.lit (IntIn.elem .i64) hX (Nat.le_refl _) (l.map (Value.int .i64)) l arr ?_ (by simp) (fun i hi hi' => by simp [IntIn]) (by omega)
  rw [harr, lit_cells]

theorem lit_pick (X : Nat → Bool) (tb : Nat) (l : List Int) (arr : Array Value) (e : TypeId) (len : Nat) (w : World) (a b : Int) (ht : TapeR X tb w) (hX : ∀ k, X k = true → k < w.heap.size) (harr : arr = (l.map (Value.int .i64)).toArray) (hlen : len = l.length) (h0 : 0 < l.length) (hl : l.length ≤ 1000) (hab : Hid (∀ x ∈ l, a ≤ x ∧ x ≤ b)) :
    Calls Tryz.prog 86 #[.pointer (some ⟨tb, 0, none⟩), .slice (some ⟨w.heap.size, 0, none⟩) len len] (w.alloc (.cells arr e)) (TIntOut X tb w a b) := by
  subst hlen
  have hE : Ext w (w.alloc (.cells arr e)) := (ExtX.refl w).alloc _
  refine (pick_any X tb _ l _ _ a b (ht.ext hE) (OL.sl (IntIn.elem .i64) (lit_sl X w l e arr harr hX hl)) h0 hl hab).mono ?_
  rintro e' w' ⟨hE', ht', r⟩
  exact ⟨(ExtX.of hE).trans hE', ht', r⟩

end Go.Proofs.YtjbhcniiioepgaaGreat


namespace Go.Proofs.YtjbhcniiioepgaaGreat
open Go.RowKit Go.Rep Go.Lim

theorem TapeR.unstep {X : Nat → Bool} {tb : Nat} {w w' : World} {oo oo' : Option Addr} (h : TapeR (un X oo) tb w) (hb : ob oo tb = false) (hE : ExtX (ob oo) w w') (ho : oo' = oo ∨ ∃ g, oo' = some ⟨g, 0, none⟩ ∧ w.heap.size ≤ g) : TapeR (un X oo') tb w' := by
  have hlt := h.lt
  obtain ⟨hX, lo, l, cap, at_, h1, h2, h3, h4⟩ := h
  refine ⟨?_, lo, l, cap, at_, by rw [hE.block tb hlt hb]; exact h1, h2, h3, h4.unstep (IntIn.mono _) hE ho⟩
  have : X tb = true := by simpa [un, hb] using hX
  exact un_left this
theorem TapeR.unX {X : Nat → Bool} {tb : Nat} {w : World} {oo : Option Addr} (h : TapeR (un X oo) tb w) (hX : X tb = true) : TapeR X tb w := by
  obtain ⟨_, lo, l, cap, at_, h1, h2, h3, h4⟩ := h
  exact ⟨hX, lo, l, cap, at_, h1, h2, h3, h4.unX (IntIn.mono _)⟩
theorem un_none (X : Nat → Bool) : un X none = X := by funext k; simp [un, ob]
theorem TapeR.none {X : Nat → Bool} {tb : Nat} {w : World} (h : TapeR X tb w) : TapeR (un X none) tb w := by rw [un_none]; exact h
/-- The tape from before an owned list was made. -/
theorem TapeR.old {X : Nat → Bool} {tb : Nat} {w w' : World} {oo : Option Addr} (h : TapeR X tb w) (hE : Ext w w') (hb : ∀ j, j < w.heap.size → ob oo j = false) : TapeR (un X oo) tb w' := by
  have hlt := h.lt
  obtain ⟨hX, lo, l, cap, at_, h1, h2, h3, h4⟩ := h
  exact ⟨un_left hX, lo, l, cap, at_, by rw [hE.block tb hlt rfl]; exact h1, h2, h3, h4.old (IntIn.mono _) hE hb⟩
theorem _root_.Go.Rep.OL.not_ob {α : Type} {R : Mem → Value → α → Prop} {sz base cap : Nat} {e : TypeId} {ao : Option Addr} {l : List α} {X : Nat → Bool} {w : World} (ho : OL R sz X base e w ao cap l) {k : Nat} (hk : X k = true) : ob ao k = false := by
  have h : ∀ k, ob ao k = true → X k = false := ho.1
  cases hh : ob ao k
  · rfl
  · rw [h k hh] at hk; simp at hk

theorem ob_new (w : World) : ∀ j, j < w.heap.size → ob (some ⟨w.heap.size, 0, none⟩) j = false := fun j hj => by
  cases hh : ob (some ⟨w.heap.size, 0, none⟩) j
  · rfl
  · have : w.heap.size = j := by simpa [ob] using hh
    omega

end Go.Proofs.YtjbhcniiioepgaaGreat


namespace Go.Lim

theorem nv_take_lt {l : List Nat} (h : Dig l) (k : Nat) : nv (l.take k) < B ^ k := by
  refine Nat.lt_of_lt_of_le (nv_lt (h.take k)) (Nat.pow_le_pow_right B_pos ?_)
  simp; omega
theorem nv_take_of_lt {l : List Nat} {k : Nat} (h : nv l < B ^ k) : nv (l.take k) = nv l := by
  by_cases hk : k ≤ l.length
  · have h1 := nv_split l k hk
    have h2 : nv (l.drop k) = 0 := by
      by_cases h0 : nv (l.drop k) = 0
      · exact h0
      · have : B ^ k * 1 ≤ B ^ k * nv (l.drop k) := Nat.mul_le_mul_left _ (by omega)
        omega
    rw [h2] at h1; omega
  · rw [List.take_of_length_le (by omega)]
theorem getD_of_lt {l : List Nat} {i : Nat} (h : i < l.length) : l.getD i 0 = l[i] := by simp [List.getD, h]
theorem getD_of_ge {l : List Nat} {i : Nat} (h : l.length ≤ i) : l.getD i 0 = 0 := by simp [List.getD, h]

/-- One digit of a difference: x - y - c, to the base. -/
def subD (x y c : Nat) : Nat := (x + 4294967296 - y - c) % 4294967296
def subC (x y c : Nat) : Nat := if x < y + c then 1 else 0
theorem subD_eq {x y c : Nat} (hx : x < B) (hy : y < B) (hc : c ≤ 1) : subD x y c + y + c = x + B * subC x y c ∧ subD x y c < B ∧ subC x y c ≤ 1 := by
  rw [B_eq] at *
  unfold subD subC
  split <;> omega

/-- In a subtraction: i digits done, the borrow. -/
def SubInv (a b o : List Nat) (i c : Nat) : Prop := o.length = a.length ∧ Dig o ∧ c ≤ 1 ∧ nv (o.take i) + nv (b.take i) = nv (a.take i) + B ^ i * c
theorem SubInv.start (a b : List Nat) : SubInv a b (List.replicate a.length 0) 0 0 := ⟨by simp, Dig.zeros _, by omega, by simp [nv]⟩
theorem SubInv.step {a b o : List Nat} {i c x y : Nat} (h : SubInv a b o i c) (hi : i < a.length) (hx : a[i] = x) (hy : b.getD i 0 = y) (ha : Dig a) (hb : Dig b) :
    SubInv a b (o.set i (subD x y c)) (i + 1) (subC x y c) := by
  obtain ⟨h1, h2, h3, h4⟩ := h
  have hai := ha.get i hi
  have hyB := hb.getD i
  rw [hx] at hai
  rw [hy] at hyB
  obtain ⟨e1, e2, e3⟩ := subD_eq hai hyB h3
  refine ⟨by simpa using h1, h2.set _ _ e2, e3, ?_⟩
  rw [take_set_succ o i _ (by omega), nv_snoc, nv_take_succ a i hi, nv_take_getD, hx, hy, List.length_take, Nat.min_eq_left (by omega), Nat.pow_succ]
  generalize subD x y c = d at *
  generalize subC x y c = c' at *
  have e4 : B ^ i * (d + y + c) = B ^ i * (x + B * c') := by rw [e1]
  rw [Nat.mul_add, Nat.mul_add, Nat.mul_add] at e4
  rw [Nat.mul_assoc]
  omega
theorem SubInv.done {a b o : List Nat} {c : Nat} (h : SubInv a b o a.length c) (hab : b.length ≤ a.length) (hle : nv b ≤ nv a) : nv o = nv a - nv b := by
  obtain ⟨h1, h2, h3, h4⟩ := h
  rw [List.take_of_length_le (Nat.le_of_eq h1), List.take_of_length_le hab, List.take_of_length_le (Nat.le_refl _)] at h4
  have h5 := nv_lt h2
  rw [h1] at h5
  have h6 : c = 0 := by
    by_cases h0 : c = 0
    · exact h0
    · have : c = 1 := by omega
      subst this; omega
  subst h6; omega

/-- In 'reduce': k digits of x V taken from the window W, the carry of the product and the borrow. -/
def RedInv (W V : List Nat) (x : Nat) (o : List Nat) (k cy bo : Nat) : Prop :=
  o.length = W.length ∧ Dig o ∧ o.drop k = W.drop k ∧ bo ≤ 1 ∧ cy < B ∧ (∃ L, L < B ^ k ∧ x * nv (V.take k) = L + B ^ k * cy) ∧ nv (o.take k) + x * nv (V.take k) = nv (W.take k) + B ^ k * (cy + bo)
theorem RedInv.start {W V : List Nat} {x : Nat} (hW : Dig W) : RedInv W V x W 0 0 0 := ⟨rfl, hW, rfl, by omega, B_pos, ⟨0, by simp, by simp [nv]⟩, by simp [nv]⟩
theorem RedInv.step {W V o : List Nat} {x k cy bo y z : Nat} (h : RedInv W V x o k cy bo) (hk : k < W.length) (hy : V.getD k 0 = y) (hz : o.getD k 0 = z) (hV : Dig V) (hx : x < B) :
    RedInv W V x (o.set k (subD z ((cy + x * y) % 4294967296) bo)) (k + 1) ((cy + x * y) / 4294967296) (subC z ((cy + x * y) % 4294967296) bo) ∧ cy + x * y < 18446744073709551616 ∧ z < 4294967296 := by
  obtain ⟨h1, h2, h3, h4, h5, ⟨L, h6, h7⟩, h8⟩ := h
  have hyB := hV.getD k
  rw [hy] at hyB
  have hzB := h2.getD k
  rw [hz] at hzB
  have hzW : W[k] = z := by
    have e0 : (o.drop k)[0]'(by simp; omega) = (W.drop k)[0]'(by simp; omega) := by simp only [h3]
    simp at e0
    rw [← e0, ← hz, getD_of_lt (by omega)]
  have hm : x * y ≤ 4294967295 * 4294967295 := Nat.mul_le_mul (by rw [B_eq] at hx; omega) (by rw [B_eq] at hyB; omega)
  obtain ⟨lo, hlo⟩ : ∃ lo, (cy + x * y) % 4294967296 = lo := ⟨_, rfl⟩
  obtain ⟨hi, hhi⟩ : ∃ hi, (cy + x * y) / 4294967296 = hi := ⟨_, rfl⟩
  have hdm : B * hi + lo = cy + x * y := by rw [← hlo, ← hhi, B_eq]; exact Nat.div_add_mod _ _
  have hloB : lo < B := by rw [← hlo, B_eq]; exact Nat.mod_lt _ (by decide)
  have hhiB : hi < B := by rw [B_eq] at h5 ⊢; omega
  rw [hlo, hhi]
  obtain ⟨e1, e2, e3⟩ := subD_eq hzB hloB h4
  have hV1 : nv (V.take (k + 1)) = nv (V.take k) + B ^ k * y := by rw [nv_take_getD, hy]
  have e5 : B ^ k * (B * hi + lo) = B ^ k * (cy + x * y) := by rw [hdm]
  rw [Nat.mul_add, Nat.mul_add] at e5
  have e6 : x * (nv (V.take k) + B ^ k * y) = x * nv (V.take k) + B ^ k * (x * y) := by rw [Nat.mul_add, Nat.mul_left_comm]
  refine ⟨⟨by simpa using h1, h2.set _ _ e2, ?_, e3, hhiB, ⟨L + B ^ k * lo, ?_, ?_⟩, ?_⟩, by rw [B_eq] at h5; omega, by rw [B_eq] at hzB; exact hzB⟩
  · rw [List.drop_set_of_lt (by omega)]
    have : (o.drop k).drop 1 = (W.drop k).drop 1 := by rw [h3]
    simpa using this
  · rw [Nat.pow_succ]
    have : B ^ k * lo + B ^ k ≤ B ^ k * B := by rw [← Nat.mul_succ]; exact Nat.mul_le_mul_left _ hloB
    omega
  · rw [hV1, e6, h7, Nat.pow_succ, Nat.mul_assoc]; omega
  · rw [take_set_succ o k _ (by omega), nv_snoc, nv_take_succ W k hk, hzW, hV1, e6, List.length_take, Nat.min_eq_left (by omega), Nat.pow_succ, Nat.mul_assoc, Nat.mul_add]
    rw [Nat.mul_add] at h8
    generalize subD z lo bo = d at *
    generalize subC z lo bo = c' at *
    have e7 : B ^ k * (d + lo + bo) = B ^ k * (z + B * c') := by rw [e1]
    rw [Nat.mul_add, Nat.mul_add, Nat.mul_add] at e7
    rw [Nat.mul_add]
    omega
theorem RedInv.done {W V o : List Nat} {x cy bo n : Nat} (h : RedInv W V x o W.length cy bo) (hW : W.length = n + 1) (hV : V.length = n) (hVd : Dig V) (hx : x < B) :
    o.length = n + 1 ∧ Dig o ∧ ((bo = 0 ∧ nv o + x * nv V = nv W) ∨ (bo = 1 ∧ nv W < x * nv V ∧ nv o + x * nv V = nv W + B ^ (n + 1))) := by
  obtain ⟨h1, h2, h3, h4, h5, ⟨L, h6, h7⟩, h8⟩ := h
  have hVl := nv_lt hVd
  rw [hV] at hVl
  have hol := nv_lt h2
  rw [h1, hW] at hol
  rw [List.take_of_length_le (by omega)] at h7
  rw [List.take_of_length_le (by omega), List.take_of_length_le (by omega), List.take_of_length_le (Nat.le_refl _)] at h8
  rw [hW] at h6 h7 h8
  have hxv : x * nv V < B ^ (n + 1) := by
    rw [Nat.pow_succ, Nat.mul_comm (B ^ n)]
    exact Nat.lt_of_le_of_lt (Nat.mul_le_mul_right _ (Nat.le_of_lt hx)) (Nat.mul_lt_mul_of_pos_left hVl B_pos)
  have hcy : cy = 0 := by
    by_cases h0 : cy = 0
    · exact h0
    · have : B ^ (n + 1) * 1 ≤ B ^ (n + 1) * cy := Nat.mul_le_mul_left _ (by omega)
      omega
  subst hcy
  refine ⟨by omega, h2, ?_⟩
  rcases (show bo = 0 ∨ bo = 1 by omega) with rfl | rfl
  · left; exact ⟨rfl, by simpa using h8⟩
  · right
    rw [Nat.zero_add, Nat.mul_one] at h8
    exact ⟨rfl, by omega, h8⟩

/-- In 'restore': k digits of V added to the window W, the carry. -/
def ResInv (W V : List Nat) (o : List Nat) (k c : Nat) : Prop :=
  o.length = W.length ∧ Dig o ∧ o.drop k = W.drop k ∧ c ≤ 1 ∧ nv (o.take k) + B ^ k * c = nv (W.take k) + nv (V.take k)
theorem ResInv.start {W V : List Nat} (hW : Dig W) : ResInv W V W 0 0 := ⟨rfl, hW, rfl, by omega, by simp [nv]⟩
theorem ResInv.step {W V o : List Nat} {k c y z : Nat} (h : ResInv W V o k c) (hk : k < W.length) (hy : V.getD k 0 = y) (hz : o.getD k 0 = z) (hV : Dig V) :
    ResInv W V (o.set k ((z + y + c) % 4294967296)) (k + 1) ((z + y + c) / 4294967296) ∧ z < 4294967296 := by
  obtain ⟨h1, h2, h3, h4, h8⟩ := h
  have hyB := hV.getD k
  rw [hy, B_eq] at hyB
  have hzB := h2.getD k
  rw [hz, B_eq] at hzB
  have hzW : W[k] = z := by
    have e0 : (o.drop k)[0]'(by simp; omega) = (W.drop k)[0]'(by simp; omega) := by simp only [h3]
    simp at e0
    rw [← e0, ← hz, getD_of_lt (by omega)]
  refine ⟨⟨by simpa using h1, h2.set _ _ (by rw [B_eq]; exact Nat.mod_lt _ (by decide)), ?_, by omega, ?_⟩, hzB⟩
  · rw [List.drop_set_of_lt (by omega)]
    have : (o.drop k).drop 1 = (W.drop k).drop 1 := by rw [h3]
    simpa using this
  · rw [take_set_succ o k _ (by omega), nv_snoc, nv_take_succ W k hk, hzW, nv_take_getD, hy, List.length_take, Nat.min_eq_left (by omega), Nat.pow_succ, Nat.mul_assoc]
    have e : (z + y + c) % 4294967296 + B * ((z + y + c) / 4294967296) = z + y + c := by rw [B_eq]; omega
    have e2 : B ^ k * ((z + y + c) % 4294967296) + B ^ k * (B * ((z + y + c) / 4294967296)) = B ^ k * z + B ^ k * y + B ^ k * c := by rw [← Nat.mul_add, e, Nat.mul_add, Nat.mul_add]
    omega
theorem ResInv.done {W V o : List Nat} {c n : Nat} (h : ResInv W V o W.length c) (hW : W.length = n + 1) (hV : V.length = n) : o.length = n + 1 ∧ Dig o ∧ c ≤ 1 ∧ nv o + B ^ (n + 1) * c = nv W + nv V := by
  obtain ⟨h1, h2, h3, h4, h8⟩ := h
  rw [List.take_of_length_le (by omega), List.take_of_length_le (Nat.le_refl _), List.take_of_length_le (by omega), hW] at h8
  exact ⟨by omega, h2, h4, h8⟩

/-- In 'shifted': k digits moved to the left by s bits. -/
def ShInv (a o : List Nat) (s k : Nat) : Prop := o.length = a.length + 1 ∧ Dig o ∧ (∀ p, k < p → o.getD p 0 = 0) ∧ o.getD k 0 < 2 ^ s ∧ nv (o.take (k + 1)) = nv (a.take k) * 2 ^ s
theorem ShInv.start (a : List Nat) (s : Nat) : ShInv a (List.replicate (a.length + 1) 0) s 0 :=
  ⟨by simp, Dig.zeros _, fun p _ => by by_cases h : p < a.length + 1 <;> simp [List.getD, h], by simp [List.getD]; exact Nat.two_pow_pos _, by rw [nv_take_getD]; simp [nv, List.getD]⟩
theorem or_shift {lo x s : Nat} (hlo : lo < 2 ^ s) (hs : s < 32) : lo ||| (x * 2 ^ s) % 4294967296 = lo + (x * 2 ^ s) % 4294967296 := by
  have e : (x * 2 ^ s) % 4294967296 = 2 ^ s * (x % 2 ^ (32 - s)) := by
    rw [show (4294967296 : Nat) = 2 ^ s * 2 ^ (32 - s) by rw [← Nat.pow_add, show s + (32 - s) = 32 by omega], Nat.mul_comm x, Nat.mul_mod_mul_left]
  rw [e, Nat.or_comm, ← Nat.two_pow_add_eq_or_of_lt hlo, Nat.add_comm]
theorem ShInv.step {a o : List Nat} {s k x lo : Nat} (h : ShInv a o s k) (hk : k < a.length) (hx : a[k] = x) (hlo : o.getD k 0 = lo) (ha : Dig a) (hs : s < 32) :
    ShInv a ((o.set k (lo ||| (x * 2 ^ s) % 4294967296)).set (k + 1) (x * 2 ^ s / 4294967296)) s (k + 1) ∧ (lo ||| (x * 2 ^ s) % 4294967296) < 4294967296 ∧ x * 2 ^ s < 18446744073709551616 ∧ x * 2 ^ s / 4294967296 < 4294967296 := by
  obtain ⟨h1, h2, h3, h4, h5⟩ := h
  have hai := ha.get k hk
  rw [hx, B_eq] at hai
  rw [hlo] at h4
  rw [or_shift h4 hs]
  have hp : (2 : Nat) ^ s ≤ 2 ^ 31 := Nat.pow_le_pow_right (by omega) (by omega)
  have hdiv : x * 2 ^ s / 4294967296 < 2 ^ s := Nat.div_lt_of_lt_mul (Nat.mul_lt_mul_of_pos_right hai (Nat.two_pow_pos _))
  have hsum : lo + (x * 2 ^ s) % 4294967296 < 4294967296 := by
    have e : (x * 2 ^ s) % 4294967296 = 2 ^ s * (x % 2 ^ (32 - s)) := by
      rw [show (4294967296 : Nat) = 2 ^ s * 2 ^ (32 - s) by rw [← Nat.pow_add, show s + (32 - s) = 32 by omega], Nat.mul_comm x, Nat.mul_mod_mul_left]
    have e2 : x % 2 ^ (32 - s) < 2 ^ (32 - s) := Nat.mod_lt _ (Nat.two_pow_pos _)
    have e3 : 2 ^ s * (x % 2 ^ (32 - s)) + 2 ^ s ≤ 2 ^ s * 2 ^ (32 - s) := by rw [← Nat.mul_succ]; exact Nat.mul_le_mul_left _ e2
    have e4 : 2 ^ s * 2 ^ (32 - s) = 4294967296 := by rw [← Nat.pow_add, show s + (32 - s) = 32 by omega]
    omega
  have hxs : x * 2 ^ s < 18446744073709551616 := by
    have : x * 2 ^ s ≤ x * 2 ^ 31 := Nat.mul_le_mul_left _ hp
    omega
  refine ⟨⟨by simpa using h1, (h2.set _ _ (by rw [B_eq]; exact hsum)).set _ _ (by rw [B_eq]; omega), fun p hp => ?_, ?_, ?_⟩, hsum, hxs, by omega⟩
  · have := h3 p (by omega)
    simp only [List.getD_eq_getElem?_getD] at this ⊢
    rw [List.getElem?_set_ne (by omega), List.getElem?_set_ne (by omega)]; exact this
  · rw [getD_of_lt (by simp; omega), List.getElem_set_self]; exact hdiv
  · rw [take_set_succ _ _ _ (by simp; omega), nv_snoc, take_set_succ _ _ _ (by omega), nv_snoc]
    simp only [List.length_append, List.length_take, List.length_singleton, h1]
    rw [Nat.min_eq_left (by omega), nv_take_succ a k hk, hx, Nat.add_mul]
    rw [nv_take_getD, hlo] at h5
    have e := Nat.div_add_mod (x * 2 ^ s) 4294967296
    have hmin : min (k + 1) (a.length + 1) = k + 1 := by omega
    rw [Nat.mul_add, Nat.pow_succ, Nat.mul_assoc (B ^ k)]
    try rw [hmin]
    have e2 : B ^ k * (B * (x * 2 ^ s / 4294967296)) + B ^ k * (x * 2 ^ s % 4294967296) = B ^ k * x * 2 ^ s := by rw [← Nat.mul_add, B_eq, e, Nat.mul_assoc]
    omega
theorem ShInv.done {a o : List Nat} {s : Nat} (h : ShInv a o s a.length) : o.length = a.length + 1 ∧ Dig o ∧ o.getD a.length 0 < 2 ^ s ∧ nv o = nv a * 2 ^ s := by
  obtain ⟨h1, h2, h3, h4, h5⟩ := h
  rw [List.take_of_length_le (by omega), List.take_of_length_le (Nat.le_refl _)] at h5
  exact ⟨h1, h2, h4, h5⟩

/-- Knuth's estimate to the base b: the quotient of the three highest digits by the two highest, at most the greatest digit. -/
def estB (b u2 u1 u0 v1 v0 : Nat) : Nat := min ((u2 * (b * b) + u1 * b + u0) / (v1 * b + v0)) (b - 1)
/-- In 'guess'. -/
def GInvB (b u2 u1 u0 v1 v0 q r : Nat) : Prop := q * v1 + r = u2 * b + u1 ∧ estB b u2 u1 u0 v1 v0 ≤ q ∧ q ≤ b + 1
theorem GInvB.start {b u2 u1 u0 v1 v0 : Nat} (hv : b ≤ 2 * v1) (hb : 2 ≤ b) (h2 : u2 ≤ v1) (h1 : u1 < b) (h0 : u0 < b) : GInvB b u2 u1 u0 v1 v0 ((u2 * b + u1) / v1) ((u2 * b + u1) % v1) := by
  refine ⟨by rw [Nat.mul_comm]; exact Nat.div_add_mod _ _, ?_, ?_⟩
  · unfold estB
    refine Nat.le_trans (Nat.min_le_left _ _) ?_
    rw [Nat.le_div_iff_mul_le (by omega)]
    generalize hq : (u2 * (b * b) + u1 * b + u0) / (v1 * b + v0) = q
    have e : q * (v1 * b + v0) ≤ u2 * (b * b) + u1 * b + u0 := by rw [← hq]; exact Nat.div_mul_le_self _ _
    have e1 : q * v1 * b < (u2 * b + u1 + 1) * b := by
      rw [Nat.mul_add, ← Nat.mul_assoc] at e
      rw [Nat.add_mul, Nat.add_mul, Nat.mul_assoc u2, Nat.one_mul]
      omega
    have := Nat.lt_of_mul_lt_mul_right e1
    omega
  · have : (u2 * b + u1) / v1 < b + 2 := by
      rw [Nat.div_lt_iff_lt_mul (by omega)]
      have : u2 * b ≤ v1 * b := Nat.mul_le_mul_right _ h2
      rw [Nat.add_mul, Nat.mul_comm b v1]
      omega
    omega
theorem GInvB.more {b u2 u1 u0 v1 v0 q r : Nat} (h : GInvB b u2 u1 u0 v1 v0 q r) (hb : 2 ≤ b) (hc : b ≤ q ∨ r * b + u0 < q * v0) (hv : 0 < v1) : 1 ≤ q ∧ GInvB b u2 u1 u0 v1 v0 (q - 1) (r + v1) := by
  obtain ⟨h1, h2, h3⟩ := h
  have hlt : estB b u2 u1 u0 v1 v0 < q := by
    rcases hc with hc | hc
    · unfold estB; omega
    · unfold estB
      refine Nat.lt_of_le_of_lt (Nat.min_le_left _ _) ?_
      have hp : 0 < v1 * b := Nat.mul_pos hv (by omega)
      have e5 : q * (v1 * b + v0) = q * v1 * b + q * v0 := by rw [Nat.mul_add, Nat.mul_assoc]
      rw [Nat.div_lt_iff_lt_mul (by omega), e5]
      have e : (q * v1 + r) * b = (u2 * b + u1) * b := by rw [h1]
      rw [Nat.add_mul, Nat.add_mul, Nat.mul_assoc u2] at e
      omega
  refine ⟨by omega, ?_, by omega, by omega⟩
  obtain ⟨p, rfl⟩ : ∃ p, q = p + 1 := ⟨q - 1, by omega⟩
  rw [Nat.succ_mul] at h1
  rw [show p + 1 - 1 = p from rfl]; omega
theorem GInvB.less {b u2 u1 u0 v1 v0 q r : Nat} (h : GInvB b u2 u1 u0 v1 v0 q r) (hb : 2 ≤ b) (hv : b ≤ 2 * v1) (h2' : u2 ≤ v1) (hu1 : u1 < b) (hv0 : v0 < b) (hc : b ≤ r ∨ (q < b ∧ q * v0 ≤ r * b + u0)) : q = estB b u2 u1 u0 v1 v0 := by
  obtain ⟨h1, h2, h3⟩ := h
  have hq : q < b := by
    rcases hc with hc | hc
    · by_cases hq : q < b
      · exact hq
      · have e1 : b * v1 ≤ q * v1 := Nat.mul_le_mul_right _ (by omega)
        have e2 : u2 * b ≤ v1 * b := Nat.mul_le_mul_right _ h2'
        rw [Nat.mul_comm b] at e1
        omega
    · exact hc.1
  have hv0' : q * v0 ≤ r * b + u0 := by
    rcases hc with hc | hc
    · have e1 : q * v0 ≤ b * b := Nat.mul_le_mul (by omega) (by omega)
      have e2 : b * b ≤ r * b := Nat.mul_le_mul_right _ hc
      omega
    · exact hc.2
  refine Nat.le_antisymm ?_ h2
  unfold estB
  refine Nat.le_min.2 ⟨?_, by omega⟩
  have hp : 0 < v1 * b := Nat.mul_pos (by omega) (by omega)
  rw [Nat.le_div_iff_mul_le (by omega), Nat.mul_add, ← Nat.mul_assoc]
  have e : (q * v1 + r) * b = (u2 * b + u1) * b := by rw [h1]
  rw [Nat.add_mul, Nat.add_mul, Nat.mul_assoc u2] at e
  omega

theorem nv_top3 {W : List Nat} {n : Nat} (hW : W.length = n + 3) : nv W = nv (W.take n) + B ^ n * (W[n + 2] * (B * B) + W[n + 1] * B + W[n]) := by
  have e : W.take (n + 3) = W := List.take_of_length_le (by omega)
  have h0 : nv (W.take (n + 1)) = nv (W.take n) + B ^ n * W[n] := nv_take_succ W n (by omega)
  have h1 : nv (W.take (n + 2)) = nv (W.take (n + 1)) + B ^ (n + 1) * W[n + 1] := nv_take_succ W (n + 1) (by omega)
  have h2 : nv (W.take (n + 3)) = nv (W.take (n + 2)) + B ^ (n + 2) * W[n + 2] := nv_take_succ W (n + 2) (by omega)
  rw [e] at h2
  rw [h2, h1, h0, show B ^ (n + 2) = B ^ n * B * B by rw [Nat.pow_succ, Nat.pow_succ], show B ^ (n + 1) = B ^ n * B from Nat.pow_succ ..]
  generalize W[n] = x0
  generalize W[n + 1] = x1
  generalize W[n + 2] = x2
  generalize B ^ n = q
  simp only [Nat.mul_add]
  have e1 : q * B * B * x2 = q * (x2 * (B * B)) := by ac_rfl
  have e2 : q * B * x1 = q * (x1 * B) := by ac_rfl
  rw [e1, e2]
  omega
theorem nv_top2 {V : List Nat} {n : Nat} (hV : V.length = n + 2) : nv V = nv (V.take n) + B ^ n * (V[n + 1] * B + V[n]) := by
  have e : V.take (n + 2) = V := List.take_of_length_le (by omega)
  have h0 := nv_take_succ V n (by omega)
  have h1 := nv_take_succ V (n + 1) (by omega)
  rw [show n + 1 + 1 = n + 2 from rfl, e, Nat.pow_succ] at h1
  rw [h1, h0]
  generalize V[n] = x0
  generalize V[n + 1] = x1
  generalize B ^ n = q
  simp only [Nat.mul_add]
  have e2 : q * B * x1 = q * (x1 * B) := by ac_rfl
  rw [e2]
  omega

/-- The plain law of the estimate. -/
theorem est_law {b Q u2 u1 u0 v1 v0 lw lv W V : Nat} (hb : 2 ≤ b) (_hQ : 0 < Q) (eW : W = lw + Q * (u2 * (b * b) + u1 * b + u0)) (eV : V = lv + Q * (v1 * b + v0)) (lW : lw < Q) (lV : lv < Q)
    (_d2 : u2 < b) (d1 : u1 < b) (f0 : v0 < b) (hn : b ≤ 2 * v1) (hlt : W < V * b) : u2 ≤ v1 ∧ W / V ≤ estB b u2 u1 u0 v1 v0 ∧ estB b u2 u1 u0 v1 v0 ≤ W / V + 1 := by
  have hv1 : 0 < v1 := by omega
  have hp : 0 < v1 * b := Nat.mul_pos hv1 (by omega)
  have hVpos : 0 < V := by
    have : Q * 1 ≤ Q * (v1 * b + v0) := Nat.mul_le_mul_left _ (by omega)
    omega
  obtain ⟨v2, hv2⟩ : ∃ v2, v1 * b + v0 = v2 := ⟨_, rfl⟩
  obtain ⟨u3, hu3⟩ : ∃ u3, u2 * (b * b) + u1 * b + u0 = u3 := ⟨_, rfl⟩
  have hest : estB b u2 u1 u0 v1 v0 = min (u3 / v2) (b - 1) := by unfold estB; rw [hv2, hu3]
  rw [hest]
  rw [hv2] at eV
  rw [hu3] at eW
  have hU3 : u3 < (v2 + 1) * b := by
    have : Q * u3 < Q * ((v2 + 1) * b) := by
      have e0 : Q * ((v2 + 1) * b) = (Q * v2 + Q) * b := by rw [← Nat.mul_assoc, Nat.mul_add Q v2 1, Nat.mul_one]
      have e1 : (lv + Q * v2) * b ≤ (Q * v2 + Q) * b := Nat.mul_le_mul_right _ (by omega)
      rw [eV] at hlt
      omega
    exact Nat.lt_of_mul_lt_mul_left this
  refine ⟨?_, ?_, ?_⟩
  · by_cases h : u2 ≤ v1
    · exact h
    · have e1 : (v1 + 1) * (b * b) ≤ u2 * (b * b) := Nat.mul_le_mul_right _ (by omega)
      have e2 : (v2 + 1) * b ≤ (v1 * b + b) * b := Nat.mul_le_mul_right _ (by omega)
      rw [Nat.add_mul, Nat.one_mul] at e1
      have e3 : (v1 * b + b) * b = v1 * (b * b) + b * b := by rw [Nat.add_mul, Nat.mul_assoc]
      omega
  · refine Nat.le_min.2 ⟨?_, ?_⟩
    · have hv2p : 0 < v2 := by omega
      rw [Nat.le_div_iff_mul_le hv2p]
      generalize hq : W / V = q
      have h1 : q * V ≤ W := by rw [← hq]; exact Nat.div_mul_le_self _ _
      have h2 : Q * (q * v2) < Q * (u3 + 1) := by
        have e1 : q * (Q * v2) ≤ q * V := Nat.mul_le_mul_left _ (by omega)
        rw [Nat.mul_left_comm, Nat.mul_add Q, Nat.mul_one]
        omega
      have := Nat.lt_of_mul_lt_mul_left h2
      omega
    · have : W / V < b := by rw [Nat.div_lt_iff_lt_mul hVpos, Nat.mul_comm]; exact hlt
      omega
  · generalize hx : min (u3 / v2) (b - 1) = x
    have hxB : x < b := by omega
    have hxV : x * v2 ≤ u3 := by
      rw [← hx]
      exact Nat.le_trans (Nat.mul_le_mul_right _ (Nat.min_le_left _ _)) (Nat.div_mul_le_self _ _)
    clear hx
    cases x with
    | zero => exact Nat.zero_le _
    | succ y =>
      rw [Nat.add_le_add_iff_right, Nat.le_div_iff_mul_le hVpos]
      have h1 : (y + 1) * V ≤ W + V := by
        have e1 : (y + 1) * V = (y + 1) * lv + Q * ((y + 1) * v2) := by rw [eV, Nat.mul_add, Nat.mul_left_comm]
        have e2 : Q * ((y + 1) * v2) ≤ Q * u3 := Nat.mul_le_mul_left _ hxV
        have e3 : (y + 1) * lv ≤ b * Q := Nat.mul_le_mul (by omega) (by omega)
        have e4 : b * Q ≤ Q * v2 := by
          rw [Nat.mul_comm]
          refine Nat.mul_le_mul_left _ ?_
          have : 1 * b ≤ v1 * b := Nat.mul_le_mul_right _ (by omega)
          omega
        omega
      rw [Nat.succ_mul] at h1
      omega
/-- The estimate is the quotient, or one more. -/
theorem est_ok {W V : List Nat} {n : Nat} (hW : W.length = n + 3) (hV : V.length = n + 2) (hWd : Dig W) (hVd : Dig V) (hn : B ≤ 2 * V[n + 1]) (hlt : nv W < nv V * B) :
    W[n + 2] ≤ V[n + 1] ∧ nv W / nv V ≤ estB B W[n + 2] W[n + 1] W[n] V[n + 1] V[n] ∧ estB B W[n + 2] W[n + 1] W[n] V[n + 1] V[n] ≤ nv W / nv V + 1 :=
  est_law (by rw [B_eq]; decide) (Nat.pow_pos B_pos) (nv_top3 hW) (nv_top2 hV) (nv_take_lt hWd n) (nv_take_lt hVd n) (hWd.get _ _) (hWd.get _ _) (hVd.get _ _) hn hlt

/-- In the making of a remainder: the digits of a number moved to the right by s bits. -/
theorem shr_digit {u : List Nat} {s i : Nat} (hs : s < 32) (hi : i + 1 < u.length) (hd : Dig u) :
    (nv u / 2 ^ s) % B ^ (i + 1) = (nv u / 2 ^ s) % B ^ i + B ^ i * ((u[i + 1] * 4294967296 + u[i]) / 2 ^ s % 4294967296) := by
  have h1 : nv u = nv (u.take i) + B ^ i * (u[i] + B * (u[i + 1] + B * nv (u.drop (i + 2)))) := by
    have e := nv_split u i (by omega)
    rw [List.drop_eq_getElem_cons (show i < u.length by omega), List.drop_eq_getElem_cons (show i + 1 < u.length by omega)] at e
    exact e
  obtain ⟨c, hc⟩ : ∃ c, 2 ^ s * c = 4294967296 := ⟨2 ^ (32 - s), by rw [← Nat.pow_add, show s + (32 - s) = 32 by omega]⟩
  have hp : 0 < 2 ^ s := Nat.two_pow_pos _
  have hlo := nv_take_lt hd i
  have hQ : 0 < B ^ i := Nat.pow_pos B_pos
  have hdiv : nv u / B ^ i = u[i] + B * (u[i + 1] + B * nv (u.drop (i + 2))) := by
    rw [h1, Nat.add_mul_div_left _ _ hQ, Nat.div_eq_of_lt hlo, Nat.zero_add]
  rw [Nat.pow_succ, Nat.mod_mul, Nat.div_div_eq_div_mul, Nat.mul_comm (2 ^ s), ← Nat.div_div_eq_div_mul, hdiv]
  have e : u[i] + B * (u[i + 1] + B * nv (u.drop (i + 2))) = (u[i + 1] * 4294967296 + u[i]) + 2 ^ s * (B * (c * nv (u.drop (i + 2)))) := by
    have e1 : 2 ^ s * (B * (c * nv (u.drop (i + 2)))) = B * (B * nv (u.drop (i + 2))) := by
      rw [Nat.mul_left_comm, ← Nat.mul_assoc (2 ^ s), hc, ← B_eq]
    rw [e1, Nat.mul_add, B_eq]
    omega
  rw [e, Nat.add_mul_div_left _ _ hp, Nat.add_mul_mod_self_left, ← B_eq]

/-- In the making of a remainder: i digits done. -/
def ShrInv (u o : List Nat) (s n i : Nat) : Prop := o.length = n ∧ Dig o ∧ nv (o.take i) = (nv u / 2 ^ s) % B ^ i
theorem ShrInv.start (u : List Nat) (s n : Nat) : ShrInv u (List.replicate n 0) s n 0 := ⟨by simp, Dig.zeros _, by simp [nv, Nat.mod_one]⟩
theorem ShrInv.step {u o : List Nat} {s n i x y : Nat} (h : ShrInv u o s n i) (hi : i < n) (hs : s < 32) (hu : i + 1 < u.length) (hd : Dig u) (hx : u[i + 1] = x) (hy : u[i] = y) : ShrInv u (o.set i ((x * 4294967296 + y) / 2 ^ s % 4294967296)) s n (i + 1) := by
  obtain ⟨h1, h2, h3⟩ := h
  refine ⟨by simpa using h1, h2.set _ _ (by rw [B_eq]; exact Nat.mod_lt _ (by decide)), ?_⟩
  rw [take_set_succ o i _ (by omega), nv_snoc, h3, shr_digit hs hu hd, hx, hy, List.length_take, Nat.min_eq_left (by omega)]
theorem ShrInv.done {u o : List Nat} {s n : Nat} (h : ShrInv u o s n n) (hlt : nv u / 2 ^ s < B ^ n) : nv o = nv u / 2 ^ s := by
  obtain ⟨h1, h2, h3⟩ := h
  rw [List.take_of_length_le (by omega), Nat.mod_eq_of_lt hlt] at h3
  exact h3

/-- In the long division: k digits of the quotient are still to come. N: the dividend, V: the divisor, both moved. -/
def DivInv (N : Nat) (V U Q : List Nat) (k : Nat) : Prop := Dig U ∧ Dig Q ∧ nv (U.drop k) < nv V ∧ nv U + nv V * (B ^ k * nv (Q.drop k)) = N
theorem nv_drop_eq {U : List Nat} {j : Nat} (h : j < U.length) : nv (U.drop j) = U[j] + B * nv (U.drop (j + 1)) := by
  rw [List.drop_eq_getElem_cons h]; rfl
theorem DivInv.win {N : Nat} {V U Q : List Nat} {j n : Nat} (h : DivInv N V U Q (j + 1)) (hj : j + (n + 1) ≤ U.length) (hV : V.length = n) (hVd : Dig V) :
    ((U.drop j).take (n + 1)).length = n + 1 ∧ Dig ((U.drop j).take (n + 1)) ∧ nv ((U.drop j).take (n + 1)) < nv V * B ∧ nv (U.drop (j + (n + 1))) = 0 ∧ U = U.take j ++ (U.drop j).take (n + 1) ++ U.drop (j + (n + 1)) ∧ nv U = nv (U.take j) + B ^ j * nv ((U.drop j).take (n + 1)) ∧ (U.take j).length = j := by
  obtain ⟨h1, h2, h3, h4⟩ := h
  have e := nv_drop_eq (show j < U.length by omega)
  have hd := h1.get j (by omega)
  have hVl := nv_lt hVd
  rw [hV] at hVl
  have hlt : nv (U.drop j) < nv V * B := by
    rw [e]
    have : B * (nv (U.drop (j + 1)) + 1) ≤ B * nv V := Nat.mul_le_mul_left _ h3
    rw [Nat.mul_add, Nat.mul_one] at this
    rw [Nat.mul_comm (nv V)]
    omega
  have hlt2 : nv (U.drop j) < B ^ (n + 1) := by
    rw [Nat.pow_succ]
    exact Nat.lt_of_lt_of_le hlt (Nat.mul_le_mul_right _ (Nat.le_of_lt hVl))
  have ht := nv_take_of_lt hlt2
  have hsp := nv_split (U.drop j) (n + 1) (by simp; omega)
  rw [List.drop_drop] at hsp
  have hR : nv (U.drop (j + (n + 1))) = 0 := by
    by_cases h0 : nv (U.drop (j + (n + 1))) = 0
    · exact h0
    · have : B ^ (n + 1) * 1 ≤ B ^ (n + 1) * nv (U.drop (j + (n + 1))) := Nat.mul_le_mul_left _ (by omega)
      omega
  refine ⟨by simp; omega, (h1.drop j).take _, by rw [ht]; exact hlt, hR, ?_, ?_, by simp; omega⟩
  · rw [List.append_assoc]
    conv => lhs; rw [← List.take_append_drop j U]
    congr 1
    rw [← List.drop_drop, List.take_append_drop]
  · rw [ht]; exact nv_split U j (by omega)
theorem DivInv.next {N : Nat} {V U Q W' : List Nat} {j n : Nat} (h : DivInv N V U Q (j + 1)) (hj : j + (n + 1) ≤ U.length) (hjq : j < Q.length) (hV : V.length = n) (hVd : Dig V) (hW' : Dig W') (hl : W'.length = n + 1)
    (heq : nv W' = nv ((U.drop j).take (n + 1)) % nv V) : DivInv N V (U.take j ++ W' ++ U.drop (j + (n + 1))) (Q.set j (nv ((U.drop j).take (n + 1)) / nv V)) j ∧ (U.take j ++ W' ++ U.drop (j + (n + 1))).length = U.length := by
  obtain ⟨w1, w2, w3, w4, w5, w6, w7⟩ := h.win hj hV hVd
  obtain ⟨h1, h2, h3, h4⟩ := h
  have hVp : 0 < nv V := by omega
  have hq : nv ((U.drop j).take (n + 1)) / nv V < B := by rw [Nat.div_lt_iff_lt_mul hVp, Nat.mul_comm]; exact w3
  have hdr : (U.take j ++ W' ++ U.drop (j + (n + 1))).drop j = W' ++ U.drop (j + (n + 1)) := by
    rw [List.append_assoc, List.drop_append_of_le_length (by omega), List.drop_of_length_le (by omega), List.nil_append]
  have hnd : nv ((U.take j ++ W' ++ U.drop (j + (n + 1))).drop j) = nv W' := by rw [hdr, nv_append, w4]; simp
  have hnu : nv (U.take j ++ W' ++ U.drop (j + (n + 1))) = nv (U.take j) + B ^ j * nv W' := by
    rw [List.append_assoc, nv_append, nv_append, w4, w7]; simp
  refine ⟨⟨((h1.take j).append hW').append (h1.drop _), h2.set _ _ hq, ?_, ?_⟩, by simp; omega⟩
  · rw [hnd, heq]; exact Nat.mod_lt _ hVp
  · have hQ : nv ((Q.set j (nv ((U.drop j).take (n + 1)) / nv V)).drop j) = nv ((U.drop j).take (n + 1)) / nv V + B * nv (Q.drop (j + 1)) := by
      rw [nv_drop_eq (by simpa using hjq), List.getElem_set_self, List.drop_set_of_lt (by omega)]
    rw [hnu, hQ, heq]
    rw [w6] at h4
    rw [Nat.pow_succ] at h4
    have e := Nat.div_add_mod (nv ((U.drop j).take (n + 1))) (nv V)
    generalize nv ((U.drop j).take (n + 1)) / nv V = q at *
    generalize nv ((U.drop j).take (n + 1)) % nv V = r at *
    generalize nv ((U.drop j).take (n + 1)) = x at *
    generalize nv (Q.drop (j + 1)) = y at *
    generalize B ^ j = p at *
    have e1 : nv V * (p * (q + B * y)) = p * (nv V * q) + nv V * (p * B * y) := by
      rw [Nat.mul_add, Nat.mul_add, Nat.mul_left_comm (nv V) p q, Nat.mul_assoc p B y]
    have e2 : p * x = p * (nv V * q) + p * r := by rw [← e, Nat.mul_add]
    omega
theorem DivInv.done {N a b s : Nat} {V U Q : List Nat} (h : DivInv N V U Q 0) (hN : N = a * 2 ^ s) (hV : nv V = b * 2 ^ s) : nv Q = a / b ∧ nv U / 2 ^ s = a % b ∧ nv U < nv V := by
  obtain ⟨h1, h2, h3, h4⟩ := h
  simp only [List.drop_zero, Nat.pow_zero, Nat.one_mul] at h3 h4
  have hp : 0 < 2 ^ s := Nat.two_pow_pos s
  rw [hV] at h3 h4
  rw [hN] at h4
  have e : nv U = 2 ^ s * (nv U / 2 ^ s) := by
    have hm : nv U % 2 ^ s = 0 := by
      have : (nv U + b * 2 ^ s * nv Q) % 2 ^ s = 0 := by rw [h4]; exact Nat.mul_mod_left _ _
      rw [Nat.mul_right_comm, Nat.add_mul_mod_self_right] at this
      exact this
    have := Nat.div_add_mod (nv U) (2 ^ s)
    omega
  have hr : nv U / 2 ^ s < b := by rw [Nat.div_lt_iff_lt_mul hp]; exact h3
  have hsum : a = b * nv Q + nv U / 2 ^ s := by
    have : a * 2 ^ s = (b * nv Q + nv U / 2 ^ s) * 2 ^ s := by
      have e2 : b * nv Q * 2 ^ s = b * 2 ^ s * nv Q := Nat.mul_right_comm _ _ _
      rw [← h4, Nat.add_mul, e2, Nat.mul_comm (nv U / 2 ^ s)]
      omega
    exact Nat.eq_of_mul_eq_mul_right hp this
  have hb : 0 < b := Nat.lt_of_le_of_lt (Nat.zero_le _) hr
  refine ⟨?_, ?_, by rw [hV]; exact h3⟩
  · conv => rhs; rw [hsum, Nat.mul_add_div hb, Nat.div_eq_of_lt hr, Nat.add_zero]
  · conv => rhs; rw [hsum, Nat.mul_add_mod, Nat.mod_eq_of_lt hr]
theorem DivInv.start {a s n m : Nat} {V U : List Nat} (hU : Dig U) (hUl : U.length = m + 1 + n) (hn : 0 < n) (hUv : nv U = a * 2 ^ s) (htop : U.getD (m + n) 0 < 2 ^ s) (hs : s < 32) (hV : V.length = n) (hVt : B ≤ 2 * V.getD (n - 1) 0) :
    DivInv (a * 2 ^ s) V U (List.replicate (m + 1) 0) (m + 1) := by
  refine ⟨hU, Dig.zeros _, ?_, ?_⟩
  · have h1 : (U.drop (m + 1)).length = n := by simp; omega
    have h2 := nv_split (U.drop (m + 1)) (n - 1) (by omega)
    have h3 := nv_split V (n - 1) (by omega)
    have h4 := nv_take_lt (hU.drop (m + 1)) (n - 1)
    have e1 : (U.drop (m + 1)).drop (n - 1) = [U.getD (m + n) 0] := by
      rw [List.drop_drop, List.drop_eq_getElem_cons (by omega), List.drop_of_length_le (by omega), getD_of_lt (by omega)]
      congr 2; omega
    have e2 : V.drop (n - 1) = [V.getD (n - 1) 0] := by
      rw [List.drop_eq_getElem_cons (by omega), List.drop_of_length_le (by omega), getD_of_lt (by omega)]
    rw [e1] at h2
    rw [e2] at h3
    simp only [nv, Nat.mul_zero, Nat.add_zero] at h2 h3
    have hp : (2 : Nat) ^ s ≤ 2 ^ 31 := Nat.pow_le_pow_right (by omega) (by omega)
    rw [B_eq] at hVt
    have : B ^ (n - 1) * (U.getD (m + n) 0 + 1) ≤ B ^ (n - 1) * V.getD (n - 1) 0 := Nat.mul_le_mul_left _ (by omega)
    rw [Nat.mul_add, Nat.mul_one] at this
    omega
  · rw [List.drop_of_length_le (by simp)]; simpa [nv] using hUv
/-- The digit that 'guess' and 'reduce' find. -/
theorem digit_found {x c W V W' : Nat} {e : Nat} (hV : 0 < V) (h1 : W / V ≤ x) (h2 : x ≤ W / V + 1) (hW' : (c = 0 ∧ W' + x * V = W) ∨ (c = 1 ∧ W < x * V ∧ W' + x * V = W + e)) :
    (c = 0 → x = W / V ∧ W' = W % V) ∧ (c = 1 → 1 ≤ x ∧ x - 1 = W / V ∧ W' + V = W % V + e) := by
  have hd := Nat.div_add_mod W V
  have hm := Nat.mod_lt W hV
  generalize W / V = q at *
  generalize W % V = r at *
  refine ⟨fun h => ?_, fun h => ?_⟩
  · rcases hW' with ⟨_, h3⟩ | ⟨h4, _⟩
    · rcases (by omega : x = q ∨ x = q + 1) with rfl | rfl
      · refine ⟨rfl, ?_⟩; rw [Nat.mul_comm] at hd; omega
      · rw [Nat.succ_mul, Nat.mul_comm q] at h3; omega
    · omega
  · rcases hW' with ⟨h4, _⟩ | ⟨_, h3, h5⟩
    · omega
    · rcases (by omega : x = q ∨ x = q + 1) with rfl | rfl
      · rw [Nat.mul_comm] at hd; omega
      · refine ⟨by omega, by omega, ?_⟩
        rw [Nat.succ_mul, Nat.mul_comm q] at h5; omega
theorem div_norm {b V : List Nat} {n t s : Nat} (hb : Dig b) (hbl : b.length = n) (hn : 0 < n) (ht : b.getD (n - 1) 0 = t) (hs : s < 32) (h1 : 4294967296 ≤ 2 * (t * 2 ^ s)) (h2 : t * 2 ^ s < 4294967296) (hV : Canon V (nv b * 2 ^ s)) : V.length = n ∧ B ≤ 2 * V.getD (n - 1) 0 := by
  have h3 := nv_split b (n - 1) (by omega)
  have h4 := nv_take_lt hb (n - 1)
  have e2 : b.drop (n - 1) = [t] := by
    rw [List.drop_eq_getElem_cons (by omega), List.drop_of_length_le (by omega), ← ht, getD_of_lt (by omega)]
  rw [e2] at h3
  simp only [nv, Nat.mul_zero, Nat.add_zero] at h3
  have hpow : B ^ n = B ^ (n - 1) * B := by rw [← Nat.pow_succ]; congr 1; omega
  have hQ : 0 < B ^ (n - 1) := Nat.pow_pos B_pos
  have hc : 2 ^ s * 2 ^ (32 - s) = 4294967296 := by rw [← Nat.pow_add, show s + (32 - s) = 32 by omega]
  have hp : 0 < 2 ^ s := Nat.two_pow_pos _
  have htt : (t + 1) * 2 ^ s ≤ B := by
    have : t < 2 ^ (32 - s) := by
      have : 2 ^ s * t < 2 ^ s * 2 ^ (32 - s) := by rw [hc, Nat.mul_comm]; exact h2
      exact Nat.lt_of_mul_lt_mul_left this
    have : 2 ^ s * (t + 1) ≤ 2 ^ s * 2 ^ (32 - s) := Nat.mul_le_mul_left _ this
    rw [hc, Nat.mul_comm] at this
    rw [B_eq]; exact this
  have hN : nv b * 2 ^ s = nv (b.take (n - 1)) * 2 ^ s + B ^ (n - 1) * (t * 2 ^ s) := by rw [h3, Nat.add_mul, Nat.mul_assoc]
  have hup : nv b * 2 ^ s < B ^ n := by
    have e1 : nv (b.take (n - 1)) * 2 ^ s < B ^ (n - 1) * 2 ^ s := Nat.mul_lt_mul_of_pos_right h4 hp
    have e3 : B ^ (n - 1) * ((t + 1) * 2 ^ s) ≤ B ^ (n - 1) * B := Nat.mul_le_mul_left _ htt
    rw [Nat.add_mul, Nat.one_mul, Nat.mul_add] at e3
    rw [hpow, hN]; omega
  have hlo : B ^ (n - 1) * (t * 2 ^ s) ≤ nv b * 2 ^ s := by rw [hN]; omega
  have hl1 : V.length ≤ n := by rw [hV.len]; exact lg_le.2 hup
  have hl2 : ¬ V.length ≤ n - 1 := by
    rw [hV.len, lg_le]
    have : B ^ (n - 1) * 1 ≤ B ^ (n - 1) * (t * 2 ^ s) := Nat.mul_le_mul_left _ (by omega)
    omega
  have hl : V.length = n := by omega
  refine ⟨hl, ?_⟩
  have g3 := nv_split V (n - 1) (by omega)
  have g4 := nv_take_lt hV.1 (n - 1)
  have g2 : V.drop (n - 1) = [V.getD (n - 1) 0] := by
    rw [List.drop_eq_getElem_cons (by omega), List.drop_of_length_le (by omega), getD_of_lt (by omega)]
  rw [g2] at g3
  simp only [nv, Nat.mul_zero, Nat.add_zero] at g3
  rw [hV.2.2] at g3
  have : B ^ (n - 1) * (t * 2 ^ s) < B ^ (n - 1) * (V.getD (n - 1) 0 + 1) := by rw [Nat.mul_add, Nat.mul_one]; omega
  have := Nat.lt_of_mul_lt_mul_left this
  rw [B_eq]; omega
theorem est_ok2 {W V : List Nat} {n : Nat} (hW : W.length = n + 1) (hV : V.length = n) (hn2 : 2 ≤ n) (hWd : Dig W) (hVd : Dig V) (hn : B ≤ 2 * V.getD (n - 1) 0) (hlt : nv W < nv V * B) :
    W.getD n 0 ≤ V.getD (n - 1) 0 ∧ nv W / nv V ≤ estB B (W.getD n 0) (W.getD (n - 1) 0) (W.getD (n - 2) 0) (V.getD (n - 1) 0) (V.getD (n - 2) 0) ∧ estB B (W.getD n 0) (W.getD (n - 1) 0) (W.getD (n - 2) 0) (V.getD (n - 1) 0) (V.getD (n - 2) 0) ≤ nv W / nv V + 1 := by
  obtain ⟨p, rfl⟩ : ∃ p, n = p + 2 := ⟨n - 2, by omega⟩
  rw [show p + 2 - 1 = p + 1 from rfl, show p + 2 - 2 = p from rfl] at *
  rw [getD_of_lt (l := V) (i := p + 1) (by omega)] at hn
  rw [getD_of_lt (l := W) (i := p + 2) (by omega), getD_of_lt (l := W) (i := p + 1) (by omega), getD_of_lt (l := W) (i := p) (by omega), getD_of_lt (l := V) (i := p + 1) (by omega), getD_of_lt (l := V) (i := p) (by omega)]
  exact est_ok hW hV hWd hVd hn hlt
theorem estB_lt {u2 u1 u0 v1 v0 : Nat} : estB B u2 u1 u0 v1 v0 < 4294967296 := by unfold estB; rw [B_eq]; omega
theorem win_getD {U : List Nat} {j n i : Nat} (hi : i ≤ n) : ((U.drop j).take (n + 1)).getD i 0 = U.getD (j + i) 0 := by
  simp only [List.getD_eq_getElem?_getD, List.getElem?_take_of_lt (Nat.lt_succ_of_le hi), List.getElem?_drop]
theorem restored {V o o2 : List Nat} {W n c : Nat} (_hVd : Dig V) (_hV : V.length = n) (hV0 : 0 < nv V) (h1 : nv o + nv V = W % nv V + B ^ (n + 1)) (h2 : nv o2 + B ^ (n + 1) * c = nv o + nv V) (hc : c ≤ 1) (ho : Dig o2) (hl : o2.length = n + 1) : nv o2 = W % nv V := by
  have h3 := nv_lt ho
  rw [hl] at h3
  have h4 := Nat.mod_lt W hV0
  have h6 : B ^ n ≤ B ^ (n + 1) := Nat.pow_le_pow_right B_pos (by omega)
  rcases (by omega : c = 0 ∨ c = 1) with rfl | rfl
  · omega
  · omega
end Go.Lim


namespace Go.Proofs.YtjbhcniiioepgaaGreat
open Go.RowKit Go.Rep Go.Lim

theorem bits_or_u32_nat (a b : Nat) (ha : a < 4294967296) (hb : b < 4294967296) : bits .or .u32 (a : Int) (b : Int) = ((a ||| b : Nat) : Int) := by
  have hx : a ||| b < 2 ^ 32 := Nat.or_lt_two_pow (by omega) (by omega)
  have h1 : (BitVec.ofInt 32 (a : Int)).toNat = a := by
    rw [BitVec.ofInt_natCast, BitVec.toNat_ofNat]; exact Nat.mod_eq_of_lt (by omega)
  have h2 : (BitVec.ofInt 32 (b : Int)).toNat = b := by
    rw [BitVec.ofInt_natCast, BitVec.toNat_ofNat]; exact Nat.mod_eq_of_lt (by omega)
  show IntKind.u32.wrap ((BitVec.ofInt 32 (a : Int) ||| BitVec.ofInt 32 (b : Int)).toNat : Int) = _
  rw [BitVec.toNat_or, h1, h2, IntKind.wrap_u32]
  omega
theorem bits_xor_u32_nat (a b : Nat) (ha : a < 4294967296) (hb : b < 4294967296) : bits .xor .u32 (a : Int) (b : Int) = ((a ^^^ b : Nat) : Int) := by
  have hx : a ^^^ b < 2 ^ 32 := Nat.xor_lt_two_pow (by omega) (by omega)
  have h1 : (BitVec.ofInt 32 (a : Int)).toNat = a := by
    rw [BitVec.ofInt_natCast, BitVec.toNat_ofNat]; exact Nat.mod_eq_of_lt (by omega)
  have h2 : (BitVec.ofInt 32 (b : Int)).toNat = b := by
    rw [BitVec.ofInt_natCast, BitVec.toNat_ofNat]; exact Nat.mod_eq_of_lt (by omega)
  show IntKind.u32.wrap ((BitVec.ofInt 32 (a : Int) ^^^ BitVec.ofInt 32 (b : Int)).toNat : Int) = _
  rw [BitVec.toNat_xor, h1, h2, IntKind.wrap_u32]
  omega
theorem bits_and_u32_nat (a b : Nat) (ha : a < 4294967296) (hb : b < 4294967296) : bits .and .u32 (a : Int) (b : Int) = ((a &&& b : Nat) : Int) := by
  have hx : a &&& b < 2 ^ 32 := Nat.and_lt_two_pow _ (by omega)
  have h1 : (BitVec.ofInt 32 (a : Int)).toNat = a := by
    rw [BitVec.ofInt_natCast, BitVec.toNat_ofNat]; exact Nat.mod_eq_of_lt (by omega)
  have h2 : (BitVec.ofInt 32 (b : Int)).toNat = b := by
    rw [BitVec.ofInt_natCast, BitVec.toNat_ofNat]; exact Nat.mod_eq_of_lt (by omega)
  show IntKind.u32.wrap ((BitVec.ofInt 32 (a : Int) &&& BitVec.ofInt 32 (b : Int)).toNat : Int) = _
  rw [BitVec.toNat_and, h1, h2, IntKind.wrap_u32]
  omega

theorem top_bit (n : Nat) (h : n < 4294967296) : n / 2147483648 = (n.testBit 31).toNat := by
  rw [Nat.testBit_eq_decide_div_mod_eq, show (2 : Nat) ^ 31 = 2147483648 from rfl]
  by_cases h1 : n / 2147483648 % 2 = 1
  · rw [decide_eq_true h1]; simp; omega
  · rw [decide_eq_false h1]; simp; omega
theorem top_not (n : Nat) : (4294967295 ^^^ n).testBit 31 = !n.testBit 31 := by
  rw [Nat.testBit_xor, show (4294967295 : Nat) = 2 ^ 32 - 1 from rfl, Nat.testBit_two_pow_sub_one]
  cases n.testBit 31 <;> rfl
/-- The borrow asl the library computes it. -/
theorem borrow_eq (x y d c : Nat) (hx : x < 4294967296) (hy : y < 4294967296) (hc : c ≤ 1) (hd : d = subD x y c) :
    (((4294967295 ^^^ x) &&& y) ||| ((4294967295 ^^^ (x ^^^ y)) &&& d)) / 2147483648 = subC x y c := by
  have hdl : d < 4294967296 := by rw [hd]; unfold subD; omega
  have h1 : (4294967295 ^^^ x) &&& y < 4294967296 := Nat.and_lt_two_pow (n := 32) _ hy
  have h2 : (4294967295 ^^^ (x ^^^ y)) &&& d < 4294967296 := Nat.and_lt_two_pow (n := 32) _ hdl
  rw [top_bit _ (Nat.or_lt_two_pow (n := 32) h1 h2), Nat.testBit_or, Nat.testBit_and, Nat.testBit_and, top_not x, top_not, Nat.testBit_xor]
  have e1 := top_bit x hx
  have e2 := top_bit y hy
  have e3 := top_bit d hdl
  rw [hd] at e3 ⊢
  unfold subC
  unfold subD at *
  cases hbx : x.testBit 31 <;> cases hby : y.testBit 31 <;> cases hbd : ((x + 4294967296 - y - c) % 4294967296).testBit 31 <;> simp [hbx, hby, hbd] at e1 e2 e3 ⊢ <;> omega

theorem sub32_any (x y c : Nat) (w : World) (hx : x < 4294967296) (hy : y < 4294967296) (hc : c ≤ 1) :
    Calls Tryz.prog 226 #[.int .u32 x, .int .u32 y, .int .u32 c] w fun e w' => w = w' ∧ e = .returned (.tuple #[.int .u32 (subD x y c : Nat), .int .u32 (subC x y c : Nat)]) := by
  have hb := hid (borrow_eq x y (subD x y c) c hx hy hc rfl)
  go_enter Tryz.func226, Tryz.ntmps226
  go_wp2_with fail
  go_ret2
  refine ⟨rfl, ?_⟩
  have hxy : x ^^^ y < 4294967296 := Nat.xor_lt_two_pow (n := 32) hx hy
  have hn : ∀ n : Nat, n < 4294967296 → 4294967295 ^^^ n < 4294967296 := fun n h => Nat.xor_lt_two_pow (n := 32) (by omega) h
  have hm : IntKind.u32.max = ((4294967295 : Nat) : Int) := rfl
  have hd : ((x : Int) - y - c) % 4294967296 = (subD x y c : Nat) := by unfold subD; omega
  have hdl : subD x y c < 4294967296 := by unfold subD; omega
  rw [hm, hd, bits_xor_u32_nat _ _ (by decide) hx, bits_xor_u32_nat _ _ hx hy, bits_xor_u32_nat _ _ (by decide) hxy, bits_and_u32_nat _ _ (hn _ hx) hy, bits_and_u32_nat _ _ (hn _ hxy) hdl,
    bits_or_u32_nat _ _ (Nat.and_lt_two_pow (n := 32) _ hy) (Nat.and_lt_two_pow (n := 32) _ hdl)]
  have h2 : ((((4294967295 ^^^ x) &&& y ||| (4294967295 ^^^ (x ^^^ y)) &&& subD x y c : Nat) : Int) / 2147483648) = (subC x y c : Nat) := by rw [← hb.out]; rfl
  simp [h2]
end Go.Proofs.YtjbhcniiioepgaaGreat


namespace Go.Proofs.YtjbhcniiioepgaaGreat
open Go.RowKit Go.Rep Go.Lim

/-- A number comes back; memory is asl it was. -/
def QuietOut (w : World) (k : IntKind) (n : Nat) (e : Ending) (w' : World) : Prop := e = .returned (.int k n) ∧ ∃ m, w' = w.drewN m

theorem or_shl32 (a b : Nat) (ha : a < 4294967296) (hb : b < 4294967296) : bits BinOp.or IntKind.u64 ((a : Int) * 4294967296) (b : Int) = (a : Int) * 4294967296 + b := by
  have e := bits_or_u64_nat (a * 4294967296) b (by omega) (by omega)
  have e2 := Nat.two_pow_add_eq_or_of_lt (i := 32) (b := b) (by omega) a
  rw [Nat.mul_comm] at e2
  rw [← e2] at e
  simpa using e

set_option maxRecDepth 100000 in
set_option maxHeartbeats 400000 in
theorem guess_any (u2 u1 u0 v1 v0 : Nat) (w : World) (hv : 2147483648 ≤ v1) (hv1 : v1 < 4294967296) (h2 : u2 ≤ v1) (h1 : u1 < 4294967296) (h0 : u0 < 4294967296) (hv0 : v0 < 4294967296) :
    Calls Tryz.prog 231 #[.int .u32 u2, .int .u32 u1, .int .u32 u0, .int .u32 v1, .int .u32 v0] w (QuietOut w .u64 (estB B u2 u1 u0 v1 v0)) := by
  have t1 : ((v1 : Int) == 0) = false := beqF (by omega)
  have t2 : ((v1 : Int) != 0) = true := bneT (by omega)
  have hor := or_shl32 u2 u1 (by omega) h1
  have hBe := hid B_eq
  have hst : Hid (GInvB B u2 u1 u0 v1 v0 ((u2 * 4294967296 + u1) / v1) ((u2 * 4294967296 + u1) % v1)) := hid (by
    have := GInvB.start (b := B) (u0 := u0) (v0 := v0) (by rw [B_eq]; omega) (by rw [B_eq]; omega) h2 (by rw [B_eq]; exact h1) (by rw [B_eq]; exact h0)
    rwa [B_eq] at this ⊢)
  go_enter Tryz.func231, Tryz.ntmps231
  go_wp2_with fail
  go_quiet (fail)
  go_wp2_with fail
  go_loop [12, 13] (fun x y => ∃ (q r : Nat), x = .int .u64 q ∧ y = .int .u64 r ∧ Hid (GInvB B u2 u1 u0 v1 v0 q r)) (fun x _ => (intOf x).toNat)
  case atStart => exact ⟨_, _, by rw [Int.natCast_ediv]; simp, by rw [Int.natCast_emod]; simp, hst⟩
  case round =>
    obtain ⟨q, r, rfl, rfl, hinv⟩ := hrel
    have hq : q ≤ 4294967297 := by have := hinv.out.2.2; rw [hBe.out] at this; exact this
    clear hor t1 t2 hst
    have hqI : (q : Int) ≤ 4294967297 := by omega
    by_cases hr : (r : Int) < 4294967296
    · have hor := or_shl32 r u0 (by omega) h0
      by_cases hqb : 4294967296 ≤ q
      · obtain ⟨hq1, hinv2⟩ := hinv.out.more (by rw [hBe.out]; omega) (.inl (by rw [hBe.out]; exact hqb)) (by omega)
        have hi2 := hid hinv2
        have hqbI : (4294967296 : Int) ≤ (q : Int) := by omega
        clear hinv2 hqb hq
        go_wp2_with fail
        go_round
        case rel => exact ⟨q - 1, r + v1, by rw [Int.natCast_sub hq1]; rfl, rfl, hi2⟩
        case measure => simp [intOf]; omega
      · have hm : q * v0 ≤ 4294967295 * 4294967295 := Nat.mul_le_mul (by omega) (by omega)
        have hw1 : IntKind.u64.wrap ((q : Int) * (v0 : Int)) = (q : Int) * (v0 : Int) := IntWalk.u64_in _ (by rw [← Int.natCast_mul]; omega)
        have hqv0 : (0 : Int) ≤ (q : Int) * (v0 : Int) := Int.mul_nonneg (by omega) (by omega)
        by_cases hc : r * 4294967296 + u0 < q * v0
        · obtain ⟨hq1, hinv2⟩ := hinv.out.more (by rw [hBe.out]; omega) (.inr (by rw [hBe.out]; exact hc)) (by omega)
          have hi2 := hid hinv2
          have ht : decide ((r : Int) * 4294967296 + (u0 : Int) < (q : Int) * (v0 : Int)) = true := by rw [decide_eq_true_eq, ← Int.natCast_mul]; omega
          have hqbI : (q : Int) < 4294967296 := by omega
          clear hinv2 hm hc hqb hq
          go_wp2_with fail
          go_round
          case rel => exact ⟨q - 1, r + v1, by rw [Int.natCast_sub hq1]; rfl, rfl, hi2⟩
          case measure => simp [intOf]; omega
        · have hqbI : (q : Int) < 4294967296 := by omega
          have hfin := hid (hinv.out.less (by rw [hBe.out]; omega) (by rw [hBe.out]; omega) h2 (by rw [hBe.out]; exact h1) (by rw [hBe.out]; exact hv0) (.inr ⟨by rw [hBe.out]; omega, by rw [hBe.out]; omega⟩))
          have ht : decide ((r : Int) * 4294967296 + (u0 : Int) < (q : Int) * (v0 : Int)) = false := by rw [decide_eq_false_iff_not, ← Int.natCast_mul]; omega
          have hqbJ : decide ((4294967296 : Int) ≤ (q : Int)) = false := decide_eq_false (by omega)
          have h0I : (u0 : Int) < 4294967296 := by omega
          have hv0I : (v0 : Int) < 4294967296 := by omega
          clear hm hc hqb hq hv hv1 h2 h1 h0 hv0
          go_wp2_with fail
          go_ret
          exact ⟨ret_int (congrArg Nat.cast hfin.out), _, rfl⟩
    · have hfin := hid (hinv.out.less (by rw [hBe.out]; omega) (by rw [hBe.out]; omega) h2 (by rw [hBe.out]; exact h1) (by rw [hBe.out]; exact hv0) (.inl (by rw [hBe.out]; omega)))
      clear hq hv hv1 h2 h1 h0 hv0
      go_wp2_with fail
      go_ret
      exact ⟨ret_int (congrArg Nat.cast hfin.out), _, rfl⟩

set_option maxRecDepth 100000 in
theorem shifted_any (X : Nat → Bool) (ao : Option Addr) (l : List Nat) (cap s : Nat) (w : World) (hs : Sl (NatIn .u32) 1 (mk X w) ao l) (hd : Dig l) (hl : l.length ≤ 1099511627776) (hsh : s < 32) (hX : ∀ k, X k = true → k < w.heap.size) :
    Calls Tryz.prog 230 #[.slice ao l.length cap, .int .i64 s] w (fun e w' => Ext w w' ∧ ∃ oo o, e = .returned (.slice oo o.length o.length) ∧ OL (NatIn .u32) 1 X w.heap.size 123 w' oo o.length o ∧ Hid (o.length = l.length + 1 ∧ Dig o ∧ o.getD l.length 0 < 2 ^ s ∧ nv o = nv l * 2 ^ s)) := by
  have hh := hs.hd
  go_enter Tryz.func230, Tryz.ntmps230
  go_wp2_with (at_make; refine st_make slU32 (NatIn.elem .u32) 0 (fun _ => rfl) X hX w.heap.size (Nat.le_refl _) (l.length + 1) rfl rfl (by omega) (by omega) (by omega) ?_; intro oo w1 hO hE1)
  go_loopw [15] (fun c wr => ∃ (k : Nat) (o : List Nat), c = .int .i64 k ∧ k ≤ l.length ∧ Hid (ShInv l o s k) ∧ Hid (o.length = l.length + 1) ∧ OL (NatIn .u32) 1 X w.heap.size 123 wr oo (l.length + 1) o ∧ Ext w wr) (fun c _ => l.length - (intOf c).toNat)
  case atStart => exact ⟨0, _, rfl, by omega, hid (ShInv.start l s), hid (by simp), hO, hE1⟩
  case round =>
    obtain ⟨k, o, rfl, hk, hinv, hol, hOr, hEr⟩ := hrel
    clear hO hE1
    have hho : Hd oo (l.length + 1) := hol.out ▸ hOr.hd
    by_cases hlt : k < l.length
    · have hca := (hs.mono (NatIn.mono _) (mk_ext hEr)).nat k hlt
      have hko : k < o.length := by rw [hol.out]; omega
      have hco := (hOr.sl (NatIn.elem _)).nat k hko
      obtain ⟨x, hx⟩ : ∃ x, l[k] = x := ⟨_, rfl⟩
      obtain ⟨lo, hlo⟩ : ∃ lo, o[k] = lo := ⟨_, rfl⟩
      obtain ⟨hst, b1, b2, b3⟩ := hinv.out.step (lo := lo) hlt hx ((getD_of_lt hko).trans hlo) hd hsh
      have hxB := hd.get k hlt
      rw [hx, B_eq] at hxB
      rw [hx] at hca
      rw [hlo] at hco
      have hloB := hinv.out.2.1.get k hko
      rw [hlo, B_eq] at hloB
      obtain ⟨p, hp⟩ : ∃ p, x * 2 ^ s = p := ⟨_, rfl⟩
      rw [hp] at hst b1 b2 b3
      have hst' := hid hst
      have hw : IntKind.u64.wrap ((x : Int) * 2 ^ s) = (p : Int) := by
        have e : (x : Int) * 2 ^ s = (p : Int) := by rw [← hp]; simp
        rw [e]; exact IntWalk.u64_in _ (by omega)
      have hor : bits BinOp.or IntKind.u32 (lo : Int) ((p : Int) % 4294967296) = ((lo ||| p % 4294967296 : Nat) : Int) := by
        have := bits_or_u32_nat lo (p % 4294967296) hloB (Nat.mod_lt _ (by decide))
        simpa using this
      have hdv := hid b3
      clear hx hlo hinv hp hst b1 b2 b3
      go_wp2_with (first | (with_reducible refine up_ix1 slU32 (by omega) (by assumption) ?_) | ((with_reducible show wpList _ _ _ (⟨_, .store _ _ _, _, _, _, _⟩ :: _) _ _); first | (refine st_storeNat tyU32 k (lo ||| p % 4294967296) rfl rfl hOr hko rfl rfl ?_; intro w2 hO2 hE2) | (refine st_storeNat tyU32 (k + 1) (p / 4294967296) rfl rfl hO2 (by simp; rw [hol.out]; omega) rfl (by have := hdv.out; omega) ?_; intro w3 hO3 hE3)))
      have hol3 : Hid (((o.set k (lo ||| p % 4294967296)).set (k + 1) (p / 4294967296)).length = l.length + 1) := hid (by simp; exact hol.out)
      go_roundw
      case rel => exact ⟨k + 1, _, by go_num, by omega, hst', hol3, hO3, (hEr.own hOr (Nat.le_refl _) hE2).own hO2 (Nat.le_refl _) hE3⟩
      case measure => simp [intOf]; omega
    · have hke : k = l.length := by omega
      subst hke
      have hdn := hid hinv.out.done
      rw [← hol.out] at hOr ⊢
      go_wp2_with fail
      go_ret
      exact ⟨hEr, _, o, rfl, hOr, hdn⟩

/-- A window of digits has been replaced. -/
def WinOut (X : Nat → Bool) (base g cU : Nat) (w : World) (A R : List Nat) (P : List Nat → Ending → Prop) (e : Ending) (w' : World) : Prop :=
  ExtX (ob (some ⟨g, 0, none⟩)) w w' ∧ ∃ o : List Nat, P o e ∧ OL (NatIn .u32) 1 X base 123 w' (some ⟨g, 0, none⟩) cU (A ++ o ++ R)

theorem win_get {A o R : List Nat} {k : Nat} (h : k < o.length) : (A ++ o ++ R)[A.length + k]'(by simp; omega) = o[k] := by
  rw [List.getElem_append_left (by simp; omega), List.getElem_append_right (by omega)]
  simp
theorem win_set {A o R : List Nat} {k d : Nat} (h : k < o.length) : (A ++ o ++ R).set (A.length + k) d = A ++ o.set k d ++ R := by
  rw [List.append_assoc, List.set_append_right _ _ (by omega), List.append_assoc]
  congr 1
  rw [show A.length + k - A.length = k by omega, List.set_append_left _ _ h]

theorem ptr_win (g a k : Nat) : Value.pointer (some (⟨g, a + k, none⟩ : Addr)) = .pointer (some (adr (some ⟨g, 0, none⟩) (a + k))) := by rw [adr_some, Nat.zero_add]

def RedP (W V : List Nat) (x n : Nat) (o : List Nat) (e : Ending) : Prop := ∃ bo : Nat, e = .returned (.bool (decide (bo = 1))) ∧ o.length = n + 1 ∧ Dig o ∧ ((bo = 0 ∧ nv o + x * nv V = nv W) ∨ (bo = 1 ∧ nv W < x * nv V ∧ nv o + x * nv V = nv W + B ^ (n + 1)))

set_option maxRecDepth 100000 in
theorem reduce_any (X : Nat → Bool) (base g cU cw : Nat) (A W R V : List Nat) (vo : Option Addr) (cv x n : Nat) (w : World) (hU : OL (NatIn .u32) 1 X base 123 w (some ⟨g, 0, none⟩) cU (A ++ W ++ R)) (hVs : Sl (NatIn .u32) 1 (mk (un X (some ⟨g, 0, none⟩)) w) vo V)
    (hW : W.length = n + 1) (hV : V.length = n) (hVd : Dig V) (hWd : Dig W) (hx : x < 4294967296) (_hA : A.length ≤ 1099511627776) (hn : n ≤ 1099511627776) :
    Calls Tryz.prog 232 #[.slice (some ⟨g, A.length, none⟩) W.length cw, .slice vo V.length cv, .int .u64 x] w (WinOut X base g cU w A R (RedP W V x n)) := by
  have hhv := hVs.hd
  have hhw : Hd (some (⟨g, A.length, none⟩ : Addr)) W.length := fun _ => ⟨_, _, rfl⟩
  have hWh := hid hW
  have hVh := hid hV
  have hxB : Hid (x < B) := hid (by rw [B_eq]; exact hx)
  have hWl : W.length ≤ 1099511627777 := by omega
  have hVl : V.length ≤ 1099511627776 := by omega
  clear hW hV
  go_enter Tryz.func232, Tryz.ntmps232
  go_wp2_with fail
  go_loopw [7, 8, 13] (fun a b c wr => ∃ (k cy bo : Nat) (o : List Nat), a = .int .u64 cy ∧ b = .int .u32 bo ∧ c = .int .i64 k ∧ k ≤ W.length ∧ cy < 4294967296 ∧ bo ≤ 1 ∧ Hid (RedInv W V x o k cy bo) ∧ Hid (o.length = W.length) ∧ OL (NatIn .u32) 1 X base 123 wr (some ⟨g, 0, none⟩) cU (A ++ o ++ R) ∧ ExtX (ob (some ⟨g, 0, none⟩)) w wr) (fun _ _ c _ => W.length - (intOf c).toNat)
  case atStart => exact ⟨0, 0, 0, W, rfl, rfl, rfl, by omega, by omega, by omega, hid (RedInv.start hWd), hid rfl, hU, ExtX.refl _⟩
  case round =>
    obtain ⟨k, cy, bo, o, rfl, rfl, rfl, hk, hcy, hbo, hinv, hol, hOr, hEr⟩ := hrel
    clear hU
    by_cases hlt : k < W.length
    · have hko : k < o.length := by rw [hol.out]; exact hlt
      have hall : A.length + k < (A ++ o ++ R).length := by simp; omega
      have hco := (hOr.sl (NatIn.elem _)).nat (A.length + k) hall
      rw [win_get hko] at hco
      obtain ⟨z, hz⟩ : ∃ z, o[k] = z := ⟨_, rfl⟩
      rw [hz] at hco
      have hco1 : wr.cell? ⟨g, A.length + k, none⟩ = some (.int .u32 z) := by rw [adr_some, Nat.zero_add] at hco; exact hco
      have hVs1 := hVs.unstep (NatIn.mono _) hEr (.inl rfl)
      by_cases hkv : k < V.length
      · have hcv := hVs1.nat k hkv
        obtain ⟨y, hy⟩ : ∃ y, V[k] = y := ⟨_, rfl⟩
        rw [hy] at hcv
        obtain ⟨hst, b1, hzB⟩ := hinv.out.step (y := y) (z := z) hlt ((getD_of_lt hkv).trans hy) ((getD_of_lt hko).trans hz) hVd hxB.out
        have hyB := hVd.get k hkv
        rw [hy, B_eq] at hyB
        obtain ⟨t, ht⟩ : ∃ t, cy + x * y = t := ⟨_, rfl⟩
        rw [ht] at hst b1
        have hst' := hid hst
        have hw1 : IntKind.u64.wrap ((x : Int) * (y : Int)) = (x : Int) * (y : Int) := IntWalk.u64_in _ (by rw [← Int.natCast_mul]; omega)
        have hw2 : IntKind.u64.wrap ((cy : Int) + (x : Int) * (y : Int)) = (t : Int) := by
          rw [← ht, Int.natCast_add, Int.natCast_mul]; exact IntWalk.u64_in _ (by rw [← Int.natCast_mul]; omega)
        have htm : (t : Int) % 4294967296 = ((t % 4294967296 : Nat) : Int) := by omega
        have htm2 : t % 4294967296 < 4294967296 := Nat.mod_lt _ (by decide)
        obtain ⟨tm, htmm⟩ : ∃ tm, t % 4294967296 = tm := ⟨_, rfl⟩
        rw [htmm] at htm htm2 hst'
        have hset := hid (win_set (A := A) (R := R) (d := subD z tm bo) hko)
        have hcy2 : t / 4294967296 < 4294967296 := by omega
        have hbo2 : subC z tm bo ≤ 1 := by unfold subC; split <;> omega
        have hol2 : Hid ((o.set k (subD z tm bo)).length = W.length) := hid (by rw [List.length_set]; exact hol.out)
        clear hst hz hy hinv ht b1 hVs1 hco htmm
        go_wp2_with (first | (with_reducible refine up_ix1 slU32 (by omega) (by assumption) ?_) | (go_at_call 226; refine (sub32_any _ _ _ _ hzB htm2 hbo).mono ?_; rintro e w' ⟨rfl, rfl⟩) | ((with_reducible show wpList _ _ _ (⟨_, .store _ _ _, _, _, _, _⟩ :: _) _ _); refine st_storeNat tyU32 (A.length + k) (subD z tm bo) (ptr_win g A.length k) rfl hOr hall rfl rfl ?_; intro w3 hO2 hE3))
        rw [hset.out] at hO2
        go_roundw
        case rel => exact ⟨k + 1, _, _, _, by simp, rfl, by go_num, by omega, hcy2, hbo2, hst', hol2, hO2, hEr.trans hE3⟩
        case measure => simp [intOf]; omega
      · obtain ⟨hst, b1, hzB⟩ := hinv.out.step (y := 0) (z := z) hlt (getD_of_ge (by omega)) ((getD_of_lt hko).trans hz) hVd hxB.out
        rw [Nat.mul_zero, Nat.add_zero, Nat.mod_eq_of_lt hcy, Nat.div_eq_of_lt hcy] at hst
        have hst' := hid hst
        have hset := hid (win_set (A := A) (R := R) (d := subD z cy bo) hko)
        have hbo2 : subC z cy bo ≤ 1 := by unfold subC; split <;> omega
        have hol2 : Hid ((o.set k (subD z cy bo)).length = W.length) := hid (by rw [List.length_set]; exact hol.out)
        clear hst hz hinv b1 hVs1 hco
        go_wp2_with (first | (with_reducible refine up_ix1 slU32 (by omega) (by assumption) ?_) | (go_at_call 226; refine (sub32_any _ _ _ _ hzB hcy hbo).mono ?_; rintro e w' ⟨rfl, rfl⟩) | ((with_reducible show wpList _ _ _ (⟨_, .store _ _ _, _, _, _, _⟩ :: _) _ _); refine st_storeNat tyU32 (A.length + k) (subD z cy bo) (ptr_win g A.length k) rfl hOr hall rfl rfl ?_; intro w3 hO2 hE3))
        rw [hset.out] at hO2
        go_roundw
        case rel => exact ⟨k + 1, 0, _, _, congrArg (Value.int .u64) (Int.ediv_eq_zero_of_lt (by omega) (by omega)), rfl, by go_num, by omega, by omega, hbo2, hst', hol2, hO2, hEr.trans hE3⟩
        case measure => simp [intOf]; omega
    · have hke : k = W.length := by omega
      subst hke
      have hdn := hinv.out.done hWh.out hVh.out hVd hxB.out
      clear hinv
      obtain ⟨d1, d2, d3⟩ := hdn
      have d1' := hid d1
      have d3' := hid d3
      clear d1
      clear d3'
      rcases d3 with ⟨rfl, d4⟩ | ⟨rfl, d4⟩
      · have d4' := hid d4
        clear d4
        go_wp2_with fail
        go_ret
        exact ⟨hEr, o, ⟨0, rfl, d1'.out, d2, .inl ⟨rfl, d4'.out⟩⟩, hOr⟩
      · have d4' := hid d4
        clear d4
        go_wp2_with fail
        go_ret
        exact ⟨hEr, o, ⟨1, rfl, d1'.out, d2, .inr ⟨rfl, d4'.out⟩⟩, hOr⟩

/-- The window behind an addition. -/
def ResP (W V : List Nat) (n : Nat) (o : List Nat) (e : Ending) : Prop := ∃ c : Nat, e = .returned (.tuple #[]) ∧ o.length = n + 1 ∧ Dig o ∧ c ≤ 1 ∧ nv o + B ^ (n + 1) * c = nv W + nv V

set_option maxRecDepth 100000 in
theorem restore_any (X : Nat → Bool) (base g cU cw : Nat) (A W R V : List Nat) (vo : Option Addr) (cv n : Nat) (w : World) (hU : OL (NatIn .u32) 1 X base 123 w (some ⟨g, 0, none⟩) cU (A ++ W ++ R)) (hVs : Sl (NatIn .u32) 1 (mk (un X (some ⟨g, 0, none⟩)) w) vo V)
    (hW : W.length = n + 1) (hV : V.length = n) (hVd : Dig V) (hWd : Dig W) (_hA : A.length ≤ 1099511627776) (hn : n ≤ 1099511627776) :
    Calls Tryz.prog 233 #[.slice (some ⟨g, A.length, none⟩) W.length cw, .slice vo V.length cv] w (WinOut X base g cU w A R (ResP W V n)) := by
  have hhv := hVs.hd
  have hhw : Hd (some (⟨g, A.length, none⟩ : Addr)) W.length := fun _ => ⟨_, _, rfl⟩
  have hWh := hid hW
  have hVh := hid hV
  have hWl : W.length ≤ 1099511627777 := by omega
  have hVl : V.length ≤ 1099511627776 := by omega
  clear hW hV
  go_enter Tryz.func233, Tryz.ntmps233
  go_wp2_with fail
  go_loopw [4, 9] (fun a c wr => ∃ (k cy : Nat) (o : List Nat), a = .int .u32 cy ∧ c = .int .i64 k ∧ k ≤ W.length ∧ cy ≤ 1 ∧ Hid (ResInv W V o k cy) ∧ Hid (o.length = W.length) ∧ OL (NatIn .u32) 1 X base 123 wr (some ⟨g, 0, none⟩) cU (A ++ o ++ R) ∧ ExtX (ob (some ⟨g, 0, none⟩)) w wr) (fun _ c _ => W.length - (intOf c).toNat)
  case atStart => exact ⟨0, 0, W, rfl, rfl, by omega, by omega, hid (ResInv.start hWd), hid rfl, hU, ExtX.refl _⟩
  case round =>
    obtain ⟨k, cy, o, rfl, rfl, hk, hcy, hinv, hol, hOr, hEr⟩ := hrel
    clear hU
    by_cases hlt : k < W.length
    · have hko : k < o.length := by rw [hol.out]; exact hlt
      have hall : A.length + k < (A ++ o ++ R).length := by simp; omega
      have hco := (hOr.sl (NatIn.elem _)).nat (A.length + k) hall
      rw [win_get hko] at hco
      obtain ⟨z, hz⟩ : ∃ z, o[k] = z := ⟨_, rfl⟩
      rw [hz] at hco
      have hco1 : wr.cell? ⟨g, A.length + k, none⟩ = some (.int .u32 z) := by rw [adr_some, Nat.zero_add] at hco; exact hco
      have hVs1 := hVs.unstep (NatIn.mono _) hEr (.inl rfl)
      by_cases hkv : k < V.length
      · have hcv := hVs1.nat k hkv
        obtain ⟨y, hy⟩ : ∃ y, V[k] = y := ⟨_, rfl⟩
        rw [hy] at hcv
        obtain ⟨hst, hzB⟩ := hinv.out.step (y := y) (z := z) hlt ((getD_of_lt hkv).trans hy) ((getD_of_lt hko).trans hz) hVd
        have hyB := hVd.get k hkv
        rw [hy, B_eq] at hyB
        have hst' := hid hst
        have hset := hid (win_set (A := A) (R := R) (d := (z + y + cy) % 4294967296) hko)
        have hcy2 : (z + y + cy) / 4294967296 ≤ 1 := by omega
        have hol2 : Hid ((o.set k ((z + y + cy) % 4294967296)).length = W.length) := hid (by rw [List.length_set]; exact hol.out)
        clear hst hz hy hinv hVs1 hco
        go_wp2_with (first | (with_reducible refine up_ix1 slU32 (by omega) (by assumption) ?_) | (go_at_call 197; refine (add32_any _ _ _ _ hzB hyB hcy).mono ?_; rintro e w' ⟨rfl, rfl⟩) | ((with_reducible show wpList _ _ _ (⟨_, .store _ _ _, _, _, _, _⟩ :: _) _ _); refine st_storeNat tyU32 (A.length + k) ((z + y + cy) % 4294967296) (ptr_win g A.length k) rfl hOr hall rfl rfl ?_; intro w3 hO2 hE3))
        rw [hset.out] at hO2
        go_roundw
        case rel => exact ⟨k + 1, _, _, rfl, by go_num, by omega, hcy2, hst', hol2, hO2, hEr.trans hE3⟩
        case measure => simp [intOf]; omega
      · obtain ⟨hst, hzB⟩ := hinv.out.step (y := 0) (z := z) hlt (getD_of_ge (by omega)) ((getD_of_lt hko).trans hz) hVd
        have hst' := hid hst
        have hset := hid (win_set (A := A) (R := R) (d := (z + 0 + cy) % 4294967296) hko)
        have hcy2 : (z + 0 + cy) / 4294967296 ≤ 1 := by omega
        have hol2 : Hid ((o.set k ((z + 0 + cy) % 4294967296)).length = W.length) := hid (by rw [List.length_set]; exact hol.out)
        clear hst hz hinv hVs1 hco
        go_wp2_with (first | (with_reducible refine up_ix1 slU32 (by omega) (by assumption) ?_) | (go_at_call 197; refine (add32_any _ 0 _ _ hzB (by omega) hcy).mono ?_; rintro e w' ⟨rfl, rfl⟩) | ((with_reducible show wpList _ _ _ (⟨_, .store _ _ _, _, _, _, _⟩ :: _) _ _); refine st_storeNat tyU32 (A.length + k) ((z + 0 + cy) % 4294967296) (ptr_win g A.length k) rfl hOr hall rfl rfl ?_; intro w3 hO2 hE3))
        rw [hset.out] at hO2
        go_roundw
        case rel => exact ⟨k + 1, _, _, rfl, by go_num, by omega, hcy2, hst', hol2, hO2, hEr.trans hE3⟩
        case measure => simp [intOf]; omega
    · have hke : k = W.length := by omega
      subst hke
      have hdn := hid (hinv.out.done hWh.out hVh.out)
      go_wp2_with fail
      exact bodyPost_end (results_none rfl _ _ _) rfl ⟨hEr, o, ⟨cy, rfl, hdn.out⟩, hOr⟩
end Go.Proofs.YtjbhcniiioepgaaGreat


namespace Go.Proofs.YtjbhcniiioepgaaGreat
open Go.RowKit Go.Rep Go.Lim

/-- A difference comes back, or no number. -/
def SubOut (X : Nat → Bool) (w : World) (na nb : Nat) (e : Ending) (w' : World) : Prop :=
  Ext w w' ∧ ∃ ao cap l, e = .returned (.tuple #[.slice ao l.length cap, .bool (decide (nb ≤ na))]) ∧ l.length ≤ cap ∧ Canon l (na - nb) ∧ Sl (NatIn .u32) 1 (mk X w') ao l

theorem sub_any (X : Nat → Bool) (ao bo : Option Addr) (la lb : List Nat) (ca cb : Nat) (w : World) (hsa : Sl (NatIn .u32) 1 (mk X w) ao la) (hsb : Sl (NatIn .u32) 1 (mk X w) bo lb)
    (hda : Dig la) (hdb : Dig lb) (hla : la.length ≤ 1099511627776) (hlb : lb.length ≤ 1099511627776) (hca : la.length ≤ ca) (hcb : lb.length ≤ cb) (hX : ∀ k, X k = true → k < w.heap.size) (na nb : Nat) (hna : val la = na) (hnb : val lb = nb) :
    Calls Tryz.prog 207 #[.slice ao la.length ca, .slice bo lb.length cb] w (SubOut X w na nb) := by
  go_enter Tryz.func207, Tryz.ntmps207
  go_wp2_with fail
  refine (value_any X _ _ _ _ hsa hda (by omega) hca).mono ?_
  rintro e w' ⟨rfl, ao1, ca1, a, rfl, hca1, hal, hcan, hsa1⟩
  go_wp2_with fail
  refine (value_any X _ _ _ _ hsb hdb (by omega) hcb).mono ?_
  rintro e w' ⟨rfl, bo1, cb1, b, rfl, hcb1, hbl, hcbn, hsb1⟩
  rw [hna] at hcan
  rw [hnb] at hcbn
  have hal' : a.length ≤ 1099511627776 := Nat.le_trans hal hla
  have hbl' : b.length ≤ 1099511627776 := Nat.le_trans hbl hlb
  have hva := hid hcan.val
  have hvb := hid hcbn.val
  clear hna hnb hal hbl hsa hsb hla hlb hca hcb hda hdb
  go_wp2_with fail
  refine (compare_any X _ _ _ _ _ _ _ hsa1 hsb1 hcan.1 hcbn.1 hal' hbl' hca1 hcb1 na nb hva.out hvb.out).mono ?_
  rintro e w1 ⟨hE1, rfl⟩
  by_cases hlt : na < nb
  · have hc : cmpN na nb < 0 := (cmpN_lt _ _).2 hlt
    have hd : Hid (decide (nb ≤ na) = false) := hid (decide_eq_false (by omega))
    have hz : Hid (na - nb = 0) := hid (by omega)
    clear hlt
    go_wp2_with fail
    go_ret2
    exact ⟨hE1, none, 0, [], by rw [hd.out]; rfl, by simp, by rw [hz.out]; exact Canon.nil, Sl.nil _ _ _ _⟩
  · have hc : ¬ cmpN na nb < 0 := fun h => hlt ((cmpN_lt _ _).1 h)
    have hd : Hid (decide (nb ≤ na) = true) := hid (decide_eq_true (by omega))
    have hab : b.length ≤ a.length := by rw [hcan.len, hcbn.len]; exact lg_mono (by omega)
    have hle : Hid (nv b ≤ nv a) := hid (by rw [hcan.2.2, hcbn.2.2]; omega)
    have hsum : Hid (nv a - nv b = na - nb) := hid (by rw [hcan.2.2, hcbn.2.2])
    have hX1 : ∀ k, X k = true → k < w1.heap.size := fun k hk => Nat.lt_of_lt_of_le (hX k hk) hE1.size
    have hsa2 := hsa1.mono (NatIn.mono _) (mk_ext hE1)
    have hsb2 := hsb1.mono (NatIn.mono _) (mk_ext hE1)
    have hda := hcan.1
    have hdb := hcbn.1
    have hha := hsa1.hd
    have hhb := hsb1.hd
    clear hlt hcan hcbn hva hvb hsa1 hsb1
    go_wp2_with (at_make; refine st_make slU32 (NatIn.elem .u32) 0 (fun _ => rfl) X hX1 w1.heap.size (Nat.le_refl _) a.length rfl rfl (by omega) (by omega) (by omega) ?_; intro oo w2 hO hE2)
    go_loopw [7, 24] (fun c i wr => ∃ (k : Nat) (o : List Nat) (cy : Nat), i = .int .i64 k ∧ c = .int .u32 cy ∧ k ≤ a.length ∧ SubInv a b o k cy ∧ OL (NatIn .u32) 1 X w1.heap.size 123 wr oo a.length o ∧ Ext w1 wr) (fun _ i _ => a.length - (intOf i).toNat)
    case atStart => exact ⟨0, _, 0, rfl, rfl, by omega, SubInv.start a b, hO, hE2⟩
    case round =>
      obtain ⟨k, o, cy, rfl, rfl, hk, hinv, hOr, hEr⟩ := hrel
      clear hO hE2
      have hcy := hinv.2.2.1
      have hol := hid hinv.1
      have hho : Hd oo a.length := hol.out ▸ hOr.hd
      by_cases hlt : k < a.length
      · have hca := (hsa2.mono (NatIn.mono _) (mk_ext hEr)).nat k hlt
        have hak := hda.get k hlt
        obtain ⟨x, hx⟩ : ∃ x, a[k] = x := ⟨_, rfl⟩
        rw [hx] at hca hak
        rw [B_eq] at hak
        by_cases hkb : k < b.length
        · have hcb := (hsb2.mono (NatIn.mono _) (mk_ext hEr)).nat k hkb
          have hbk := hdb.get k hkb
          obtain ⟨y, hy⟩ : ∃ y, b[k] = y := ⟨_, rfl⟩
          rw [hy] at hcb hbk
          rw [B_eq] at hbk
          have hst := hinv.step (y := y) hlt hx ((getD_of_lt hkb).trans hy) hda hdb
          clear hx hy
          go_wp2_with (first | (with_reducible refine up_ix1 slU32 (by omega) (by assumption) ?_) | (go_at_call 226; refine (sub32_any _ _ _ _ hak hbk hcy).mono ?_; rintro e w' ⟨rfl, rfl⟩) | ((with_reducible show wpList _ _ _ (⟨_, .store _ _ _, _, _, _, _⟩ :: _) _ _); refine st_storeNat tyU32 k (subD x y cy) rfl (by omega) hOr (by rw [hol.out]; omega) rfl rfl ?_; intro w3 hO2 hE3))
          go_roundw
          case rel => exact ⟨k + 1, _, _, by go_num, rfl, by omega, hst, hO2, hEr.own hOr (Nat.le_refl _) hE3⟩
          case measure => simp [intOf]; omega
        · have hst := hinv.step hlt hx (getD_of_ge (by omega)) hda hdb
          clear hx
          go_wp2_with (first | (with_reducible refine up_ix1 slU32 (by omega) (by assumption) ?_) | (go_at_call 226; refine (sub32_any _ 0 _ _ hak (by omega) hcy).mono ?_; rintro e w' ⟨rfl, rfl⟩) | ((with_reducible show wpList _ _ _ (⟨_, .store _ _ _, _, _, _, _⟩ :: _) _ _); refine st_storeNat tyU32 k (subD x 0 cy) rfl (by omega) hOr (by rw [hol.out]; omega) rfl rfl ?_; intro w3 hO2 hE3))
          go_roundw
          case rel => exact ⟨k + 1, _, _, by go_num, rfl, by omega, hst, hO2, hEr.own hOr (Nat.le_refl _) hE3⟩
          case measure => simp [intOf]; omega
      · have hke : k = a.length := by omega
        subst hke
        have hdn := hid (hinv.done hab hle.out)
        have hod := hinv.2.1
        have hs3 := hOr.sl (NatIn.elem .u32)
        go_wp2_with fail
        rw [← hol.out]
        refine (trimmed_any X _ _ _ _ hs3 hod (by rw [hol.out]; omega) (by rw [hol.out]; exact Nat.le_refl _)).mono ?_
        rintro e w' ⟨rfl, l', rfl, hl', hc, hs'⟩
        go_wp2_with fail
        go_ret2
        rw [hdn.out, hsum.out] at hc
        exact ⟨hE1.trans hEr, _, o.length, l', by rw [hd.out]; rfl, hl', hc, hs'⟩
end Go.Proofs.YtjbhcniiioepgaaGreat

