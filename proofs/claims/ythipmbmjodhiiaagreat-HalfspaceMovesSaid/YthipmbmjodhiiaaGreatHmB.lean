/- Natural numbers as lists of digits to the base 2^32, lowest first. Plain mathematics. Conditions: none. Integers and rational numbers as a sign and lists of digits, their only form, and their size. Conditions: none. How large the numbers of an elimination grow. Conditions: none. Matrices whose elimination stays small: those of small numbers, and those that are reduced. Conditions: none. Growth of the numbers of an elimination by the number of its pivots. Conditions: none. Depth and maps of the plane; depth and equal points; counts of directions by rows. Conditions: none. Readings of Go values as lists: what a slice's cells hold, what a call leaves as it was; rules for the walk over them. Conditions: none. Slices that a call has made itself, read as lists: make, append, store, and the rules of the walk for them. Conditions: none. Steps of the walk over lists in slices: append, make, store, a slice of a slice, loads. Conditions: none. Closed facts on the program's types. Conditions: none. natural.Valid, value, trimmed, FromUint, Compare, bits.Add32, Add. Conditions: lengths far below any machine's. -/
import Derived.Test.YthipmbmjodhiiaaGreatHmA
import Derived.WalkKit
import Derived.WalkSpells
import Derived.WalkLawsBesides
import Derived.Deep.DeepCutAuto
import Derived.Laws.CopyOwn
import Derived.Test.YthipmbmjodhiiaaGreatRows
namespace Go.Lim

/-- The base. -/
theorem B_ex : ∃ n : Nat, n = 4294967296 := ⟨_, rfl⟩
noncomputable def B : Nat := Classical.choose B_ex
theorem B_eq : B = 4294967296 := Classical.choose_spec B_ex
theorem B_pos : 0 < B := by rw [B_eq]; decide

noncomputable def nv : List Nat → Nat
  | [] => 0
  | d :: l => d + B * nv l
def Dig (l : List Nat) : Prop := ∀ d ∈ l, d < B
def validL (l : List Nat) : Bool := !(l.getLast? == some 0)
/-- The digits that count. -/
def vl (l : List Nat) : List Nat := if validL l then l else []
noncomputable def val (l : List Nat) : Nat := nv (vl l)
/-- The digits of n. -/
def Canon (l : List Nat) (n : Nat) : Prop := Dig l ∧ validL l = true ∧ nv l = n

theorem nv_append (a b : List Nat) : nv (a ++ b) = nv a + B ^ a.length * nv b := by
  induction a with
  | nil => simp [nv]
  | cons d a ih => simp only [List.cons_append, nv, ih, List.length_cons, Nat.pow_succ, Nat.mul_add]; rw [Nat.mul_comm (B ^ a.length) B, Nat.mul_assoc, Nat.add_assoc]
theorem nv_snoc (a : List Nat) (d : Nat) : nv (a ++ [d]) = nv a + B ^ a.length * d := by rw [nv_append]; simp [nv]
theorem nv_zeros (n : Nat) : nv (List.replicate n 0) = 0 := by
  induction n with
  | zero => rfl
  | succ n ih => simp [List.replicate_succ, nv, ih]
theorem Dig.nil : Dig [] := by intro d h; simp at h
theorem Dig.cons {d : Nat} {l : List Nat} (hd : d < B) (h : Dig l) : Dig (d :: l) := by
  intro x hx; rcases List.mem_cons.1 hx with rfl | hx
  · exact hd
  · exact h x hx
theorem Dig.append {a b : List Nat} (ha : Dig a) (hb : Dig b) : Dig (a ++ b) := by
  intro x hx; rcases List.mem_append.1 hx with h | h
  · exact ha x h
  · exact hb x h
theorem Dig.take {a : List Nat} (ha : Dig a) (n : Nat) : Dig (a.take n) := fun x hx => ha x (List.mem_of_mem_take hx)
theorem Dig.drop {a : List Nat} (ha : Dig a) (n : Nat) : Dig (a.drop n) := fun x hx => ha x (List.mem_of_mem_drop hx)
theorem Dig.get {a : List Nat} (ha : Dig a) (i : Nat) (h : i < a.length) : a[i] < B := ha _ (List.getElem_mem h)
theorem Dig.set {a : List Nat} (ha : Dig a) (i d : Nat) (hd : d < B) : Dig (a.set i d) := by
  intro x hx; rcases List.mem_or_eq_of_mem_set hx with h | rfl
  · exact ha x h
  · exact hd
theorem Dig.zeros (n : Nat) : Dig (List.replicate n 0) := by intro x hx; rw [List.eq_of_mem_replicate hx]; exact B_pos
theorem nv_lt {l : List Nat} (h : Dig l) : nv l < B ^ l.length := by
  induction l with
  | nil => simp [nv]
  | cons d l ih =>
    have h1 := ih (fun x hx => h x (List.mem_cons_of_mem _ hx))
    have h2 := h d (List.mem_cons_self ..)
    simp only [nv, List.length_cons, Nat.pow_succ]
    have : B * nv l + B ≤ B ^ l.length * B := by rw [← Nat.mul_succ, Nat.mul_comm]; exact Nat.mul_le_mul_right _ h1
    omega

theorem validL_snoc (l : List Nat) (d : Nat) : validL (l ++ [d]) = (d != 0) := by simp [validL, bne]
theorem validL_last {l : List Nat} (h : 0 < l.length) : validL l = (l[l.length - 1] != 0) := by
  unfold validL
  rw [List.getLast?_eq_getElem?, List.getElem?_eq_getElem (by omega)]
  simp [bne]
theorem vl_valid (l : List Nat) : validL (vl l) = true := by
  unfold vl; split
  · assumption
  · rfl
theorem vl_dig {l : List Nat} (h : Dig l) : Dig (vl l) := by
  unfold vl; split
  · exact h
  · exact Dig.nil
theorem vl_len (l : List Nat) : (vl l).length ≤ l.length := by unfold vl; split <;> simp
theorem vl_canon {l : List Nat} (h : Dig l) : Canon (vl l) (val l) := ⟨vl_dig h, vl_valid l, rfl⟩
theorem Canon.vl {l : List Nat} {n : Nat} (h : Canon l n) : vl l = l := by unfold Lim.vl; rw [h.2.1]; rfl
theorem Canon.val {l : List Nat} {n : Nat} (h : Canon l n) : val l = n := by unfold Lim.val; rw [h.vl]; exact h.2.2
theorem Canon.nil : Canon [] 0 := ⟨Dig.nil, rfl, rfl⟩

theorem snocInd {P : List Nat → Prop} (h0 : P []) (hs : ∀ l d, P l → P (l ++ [d])) (l : List Nat) : P l := by
  have : ∀ m : List Nat, P m.reverse := by
    intro m
    induction m with
    | nil => exact h0
    | cons d m ih => rw [List.reverse_cons]; exact hs _ _ ih
  simpa using this l.reverse

/-- The first k digits are all that count. -/
def Cut (l : List Nat) (k : Nat) : Prop := k ≤ l.length ∧ nv (l.take k) = nv l
theorem Cut.all (l : List Nat) : Cut l l.length := ⟨Nat.le_refl _, by rw [List.take_length]⟩
theorem Cut.less {l : List Nat} {k : Nat} (h : Cut l k) (hk : 0 < k) (h0 : l[k - 1]'(by have := h.1; omega) = 0) : Cut l (k - 1) := by
  refine ⟨by have := h.1; omega, ?_⟩
  have h1 := h.1
  have e : l.take k = l.take (k - 1) ++ [l[k - 1]'(by omega)] := by
    conv => lhs; rw [show k = (k - 1) + 1 from by omega]
    exact List.take_succ_eq_append_getElem (by omega)
  rw [← h.2, e, nv_snoc, h0]; simp
theorem Cut.canon {l : List Nat} {k : Nat} (h : Cut l k) (hd : Dig l) (hv : k = 0 ∨ ∃ h' : k - 1 < l.length, l[k - 1] ≠ 0) : Canon (l.take k) (nv l) := by
  refine ⟨hd.take k, ?_, h.2⟩
  have h1 := h.1
  rcases hv with rfl | ⟨h', h2⟩
  · rfl
  · by_cases hk : k = 0
    · subst hk; rfl
    rw [validL_last (by simp; omega)]
    have : (l.take k).length = k := by simp; omega
    simp [this, h2]
/-- After i rounds of an addition: the digits so far and the carry. -/
def AddInv (a b o : List Nat) (i c : Nat) : Prop := o.length = a.length + 1 ∧ Dig o ∧ c ≤ 1 ∧ nv (o.take i) + B ^ i * c = nv (a.take i) + nv (b.take i)
theorem take_set_succ (o : List Nat) (i d : Nat) (h : i < o.length) : (o.set i d).take (i + 1) = o.take i ++ [d] := by
  rw [List.take_succ_eq_append_getElem (by simpa using h), List.take_set, List.getElem_set_self]
  congr 1
  rw [List.set_eq_of_length_le (by simp; omega)]
theorem nv_take_succ (a : List Nat) (i : Nat) (h : i < a.length) : nv (a.take (i + 1)) = nv (a.take i) + B ^ i * a[i] := by
  rw [List.take_succ_eq_append_getElem h, nv_snoc]; congr 3; simp; omega
theorem nv_take_ge (a : List Nat) (i : Nat) (h : a.length ≤ i) : nv (a.take (i + 1)) = nv (a.take i) := by
  rw [List.take_of_length_le (by omega), List.take_of_length_le h]
theorem AddInv.start (a b : List Nat) : AddInv a b (List.replicate (a.length + 1) 0) 0 0 := ⟨by simp, Dig.zeros _, by omega, by simp [nv]⟩
theorem AddInv.step {a b o : List Nat} {i c y : Nat} (h : AddInv a b o i c) (hi : i < a.length) (hy : (∃ h : i < b.length, b[i] = y) ∨ (b.length ≤ i ∧ y = 0)) (ha : Dig a) (hb : Dig b) :
    AddInv a b (o.set i ((a[i] + y + c) % 4294967296)) (i + 1) ((a[i] + y + c) / 4294967296) := by
  obtain ⟨h1, h2, h3, h4⟩ := h
  have hai := ha.get i hi
  have hyB : y < B := by
    rcases hy with ⟨h, rfl⟩ | ⟨_, rfl⟩
    · exact hb.get i h
    · exact B_pos
  rw [B_eq] at hai hyB
  refine ⟨by simpa using h1, h2.set _ _ (by rw [B_eq]; exact Nat.mod_lt _ (by decide)), by omega, ?_⟩
  have hb2 : nv (b.take (i + 1)) = nv (b.take i) + B ^ i * y := by
    rcases hy with ⟨h, rfl⟩ | ⟨h, rfl⟩
    · exact nv_take_succ b i h
    · rw [nv_take_ge b i h]; simp
  rw [take_set_succ o i _ (by omega), nv_snoc, nv_take_succ a i hi, hb2, List.length_take, Nat.min_eq_left (by omega), Nat.pow_succ, Nat.mul_assoc]
  have e : (a[i] + y + c) % 4294967296 + B * ((a[i] + y + c) / 4294967296) = a[i] + y + c := by rw [B_eq]; omega
  have e2 : B ^ i * ((a[i] + y + c) % 4294967296) + B ^ i * (B * ((a[i] + y + c) / 4294967296)) = B ^ i * a[i] + B ^ i * y + B ^ i * c := by rw [← Nat.mul_add, e, Nat.mul_add, Nat.mul_add]
  omega
theorem AddInv.done {a b o : List Nat} {c : Nat} (h : AddInv a b o a.length c) (hab : b.length ≤ a.length) : Dig (o.set a.length c) ∧ nv (o.set a.length c) = nv a + nv b ∧ (o.set a.length c).length = a.length + 1 := by
  obtain ⟨h1, h2, h3, h4⟩ := h
  refine ⟨h2.set _ _ (by rw [B_eq]; omega), ?_, by simpa using h1⟩
  have e : o.set a.length c = (o.set a.length c).take (a.length + 1) := by rw [List.take_of_length_le (by simp; omega)]
  rw [e, take_set_succ o _ _ (by omega), nv_snoc, List.length_take, Nat.min_eq_left (by omega), h4, List.take_of_length_le (Nat.le_refl _), List.take_of_length_le hab]

/-- How many digits n has. -/
def lg (n : Nat) : Nat := if n = 0 then 0 else Nat.log2 n / 32 + 1
theorem B_two (m : Nat) : B ^ m = 2 ^ (32 * m) := by rw [Nat.pow_mul, B_eq]
theorem lg_le {n m : Nat} : lg n ≤ m ↔ n < B ^ m := by
  unfold lg
  by_cases h : n = 0
  · subst h; simp [Nat.pow_pos B_pos]
  · rw [if_neg h, B_two, ← Nat.log2_lt h]; omega
theorem Canon.len {l : List Nat} {n : Nat} (h : Canon l n) : l.length = lg n := by
  have h1 : lg n ≤ l.length := lg_le.2 (by rw [← h.2.2]; exact nv_lt h.1)
  obtain ⟨hd, hv, rfl⟩ := h
  induction l using snocInd with
  | h0 => rfl
  | hs l d _ =>
    rw [validL_snoc] at hv
    have hd : 0 < d := by simp at hv; omega
    have : ¬ lg (nv (l ++ [d])) ≤ l.length := by
      rw [lg_le, nv_snoc]
      have := Nat.mul_le_mul_left (B ^ l.length) hd
      omega
    simp at h1 ⊢
    omega
theorem lg_zero : lg 0 = 0 := rfl
theorem lg_mono {a b : Nat} (h : a ≤ b) : lg a ≤ lg b := lg_le.2 (Nat.lt_of_le_of_lt h (lg_le.1 (Nat.le_refl _)))
theorem lg_add (a b : Nat) : lg (a + b) ≤ max (lg a) (lg b) + 1 := by
  rw [lg_le]
  have h1 := (lg_le (n := a) (m := max (lg a) (lg b))).1 (Nat.le_max_left _ _)
  have h2 := (lg_le (n := b) (m := max (lg a) (lg b))).1 (Nat.le_max_right _ _)
  rw [Nat.pow_succ]
  have : 0 < B ^ max (lg a) (lg b) := Nat.pow_pos B_pos
  have := B_eq
  generalize B ^ max (lg a) (lg b) = p at *
  rw [B_eq]; omega
theorem lg_mul (a b : Nat) : lg (a * b) ≤ lg a + lg b := by
  rw [lg_le, Nat.pow_add]
  exact Nat.mul_lt_mul'' (lg_le.1 (Nat.le_refl _)) (lg_le.1 (Nat.le_refl _))
theorem lg_pos {a : Nat} (h : 0 < a) : 0 < lg a := by unfold lg; rw [if_neg (by omega)]; omega
theorem val_lg (l : List Nat) (h : Dig l) : lg (val l) ≤ l.length := by
  have := (vl_canon h).len; have := vl_len l; omega

/-- -1, 0 or 1. -/
def cmpN (a b : Nat) : Int := if a < b then -1 else if b < a then 1 else 0
theorem cmpN_of_len_lt {a b : List Nat} {m n : Nat} (ha : Canon a m) (hb : Canon b n) (h : a.length < b.length) : cmpN m n = -1 := by
  have : m < n := by
    rcases Nat.lt_or_ge m n with h1 | h1
    · exact h1
    · have := lg_mono h1; rw [← ha.len, ← hb.len] at this; omega
  simp [cmpN, this]
theorem cmpN_of_len_gt {a b : List Nat} {m n : Nat} (ha : Canon a m) (hb : Canon b n) (h : b.length < a.length) : cmpN m n = 1 := by
  have : n < m := by
    rcases Nat.lt_or_ge n m with h1 | h1
    · exact h1
    · have := lg_mono h1; rw [← ha.len, ← hb.len] at this; omega
  simp [cmpN, this, Nat.lt_asymm this]
theorem nv_split (a : List Nat) (k : Nat) (hk : k ≤ a.length) : nv a = nv (a.take k) + B ^ k * nv (a.drop k) := by
  have := nv_append (a.take k) (a.drop k)
  rw [List.take_append_drop, List.length_take, Nat.min_eq_left hk] at this
  exact this
theorem lt_of_digit {a b : List Nat} (ha : Dig a) {k : Nat} (hl : a.length = b.length) (h0 : 0 < k) (hk : k ≤ a.length) (hd : a.drop k = b.drop k) (h : a[k - 1]'(by omega) < b[k - 1]'(by omega)) : nv a < nv b := by
  rw [nv_split a k hk, nv_split b k (by omega), hd]
  have ha1 := nv_take_succ a (k - 1) (by omega)
  have hb1 := nv_take_succ b (k - 1) (by omega)
  rw [show k - 1 + 1 = k from by omega] at ha1 hb1
  have h1 := nv_lt (ha.take (k - 1))
  rw [List.length_take, Nat.min_eq_left (by omega)] at h1
  have h2 : B ^ (k - 1) * a[k - 1]'(by omega) + B ^ (k - 1) ≤ B ^ (k - 1) * b[k - 1]'(by omega) := by rw [← Nat.mul_succ]; exact Nat.mul_le_mul_left _ h
  omega
theorem cmpN_of_lt {a b : List Nat} {m n k : Nat} (ha : Canon a m) (hb : Canon b n) (hl : a.length = b.length) (h0 : 0 < k) (hk : k ≤ a.length) (hd : a.drop k = b.drop k) (h : a[k - 1]'(by omega) < b[k - 1]'(by omega)) : cmpN m n = -1 := by
  have := lt_of_digit ha.1 hl h0 hk hd h
  rw [ha.2.2, hb.2.2] at this
  simp [cmpN, this]
theorem cmpN_of_gt {a b : List Nat} {m n k : Nat} (ha : Canon a m) (hb : Canon b n) (hl : a.length = b.length) (h0 : 0 < k) (hk : k ≤ a.length) (hd : a.drop k = b.drop k) (h : b[k - 1]'(by omega) < a[k - 1]'(by omega)) : cmpN m n = 1 := by
  have := lt_of_digit hb.1 hl.symm h0 (by omega) hd.symm h
  rw [ha.2.2, hb.2.2] at this
  simp [cmpN, this, Nat.lt_asymm this]
theorem drop_eq_pred {a b : List Nat} {k : Nat} (hl : a.length = b.length) (h0 : 0 < k) (hk : k ≤ a.length) (hd : a.drop k = b.drop k) (h : a[k - 1]'(by omega) = b[k - 1]'(by omega)) : a.drop (k - 1) = b.drop (k - 1) := by
  have h1 := List.drop_eq_getElem_cons (l := a) (i := k - 1) (by omega)
  have h2 := List.drop_eq_getElem_cons (l := b) (i := k - 1) (by omega)
  rw [h1, h2, show k - 1 + 1 = k from by omega, hd, h]
theorem cmpN_of_eq {a b : List Nat} {m n k : Nat} (ha : Canon a m) (hb : Canon b n) (hk : k = 0) (hd : a.drop k = b.drop k) : cmpN m n = 0 := by
  subst hk
  have : a = b := by simpa using hd
  have : m = n := by rw [← ha.2.2, ← hb.2.2, this]
  simp [cmpN, this]
theorem cmpN_lt (a b : Nat) : cmpN a b < 0 ↔ a < b := by unfold cmpN; split <;> (try split) <;> simp_all
theorem cmpN_eq (a b : Nat) : cmpN a b = 0 ↔ a = b := by unfold cmpN; split <;> (try split) <;> simp_all <;> omega

/-- After the digits from k on of a division by one digit. -/
def ShortInv (l q : List Nat) (d k r : Nat) : Prop := q.length = l.length ∧ Dig q ∧ r < d ∧ nv (l.drop k) = d * nv (q.drop k) + r
theorem ShortInv.start (l : List Nat) (d : Nat) (hd : 0 < d) : ShortInv l (List.replicate l.length 0) d l.length 0 :=
  ⟨by simp, Dig.zeros _, hd, by simp [nv]⟩
theorem drop_set_pred (q : List Nat) (k x : Nat) (h0 : 0 < k) (hk : k ≤ q.length) : (q.set (k - 1) x).drop (k - 1) = x :: q.drop k := by
  rw [List.drop_eq_getElem_cons (by simp; omega), List.getElem_set_self, show k - 1 + 1 = k from by omega, List.drop_set_of_lt (by omega)]
theorem ShortInv.step {l q : List Nat} {d k r : Nat} (h : ShortInv l q d k r) (h0 : 0 < k) (hk : k ≤ l.length) (hl : Dig l) :
    ShortInv l (q.set (k - 1) ((r * 4294967296 + l[k - 1]) / d)) d (k - 1) ((r * 4294967296 + l[k - 1]) % d) := by
  obtain ⟨h1, h2, h3, h4⟩ := h
  have hlk := hl.get (k - 1) (by omega)
  rw [B_eq] at hlk
  have hx : (r * 4294967296 + l[k - 1]) / d < 4294967296 := by
    rw [Nat.div_lt_iff_lt_mul (by omega)]
    have : (r + 1) * 4294967296 ≤ d * 4294967296 := Nat.mul_le_mul_right _ h3
    rw [Nat.mul_comm 4294967296 d]; omega
  refine ⟨by simpa using h1, h2.set _ _ (by rw [B_eq]; exact hx), Nat.mod_lt _ (by omega), ?_⟩
  rw [drop_set_pred q k _ h0 (by omega), List.drop_eq_getElem_cons (l := l) (i := k - 1) (by omega), show k - 1 + 1 = k from by omega]
  simp only [nv]
  rw [h4]
  have e := Nat.div_add_mod (r * 4294967296 + l[k - 1]) d
  rw [B_eq]
  generalize (r * 4294967296 + l[k - 1]) / d = x at *
  generalize (r * 4294967296 + l[k - 1]) % d = y at *
  generalize nv (q.drop k) = z at *
  have e2 : 4294967296 * (d * z + r) = d * (4294967296 * z) + r * 4294967296 := by rw [Nat.mul_add, ← Nat.mul_assoc, ← Nat.mul_assoc, Nat.mul_comm 4294967296 d, Nat.mul_comm 4294967296 r]
  rw [e2, Nat.mul_add]; omega
theorem ShortInv.done {l q : List Nat} {d r : Nat} (h : ShortInv l q d 0 r) : nv q = nv l / d ∧ r = nv l % d := by
  obtain ⟨h1, h2, h3, h4⟩ := h
  simp only [List.drop_zero] at h4
  rw [h4, Nat.mul_add_div (by omega), Nat.div_eq_of_lt h3, Nat.mul_add_mod, Nat.mod_eq_of_lt h3]
  exact ⟨rfl, rfl⟩

theorem nv_set (o : List Nat) (k d : Nat) (h : k < o.length) : nv (o.set k d) + B ^ k * o[k] = nv o + B ^ k * d := by
  induction o generalizing k with
  | nil => simp at h
  | cons x o ih =>
    match k with
    | 0 => simp [nv]; omega
    | k + 1 =>
      have := ih k (by simpa using h)
      simp only [List.set_cons_succ, nv, List.getElem_cons_succ, Nat.pow_succ]
      have e1 : B ^ k * B * o[k]'(by simpa using h) = B * (B ^ k * o[k]'(by simpa using h)) := by rw [Nat.mul_comm (B ^ k) B, Nat.mul_assoc]
      have e2 : B ^ k * B * d = B * (B ^ k * d) := by rw [Nat.mul_comm (B ^ k) B, Nat.mul_assoc]
      rw [e1, e2, Nat.add_assoc, ← Nat.mul_add, this, Nat.mul_add, Nat.add_assoc]

/-- In a multiplication: i digits of a done, j digits of b in this row, the carry. -/
def MulInv (a b o : List Nat) (i j c : Nat) : Prop := o.length = a.length + b.length ∧ Dig o ∧ c < B ∧ (∀ p (h : p < o.length), i + b.length ≤ p → o[p] = 0) ∧
  nv o + B ^ (i + j) * c = nv (a.take i) * nv b + (a.getD i 0) * B ^ i * nv (b.take j)
theorem MulInv.start (a b : List Nat) : MulInv a b (List.replicate (a.length + b.length) 0) 0 0 0 :=
  ⟨by simp, Dig.zeros _, B_pos, by simp, by simp [nv, nv_zeros]⟩
theorem MulInv.step {a b o : List Nat} {i j c : Nat} (h : MulInv a b o i j c) (hi : i < a.length) (hj : j < b.length) (ha : Dig a) (hb : Dig b) (hij : i + j < o.length) :
    MulInv a b (o.set (i + j) ((c + (a[i] * b[j] + o[i + j])) % 4294967296)) i (j + 1) ((c + (a[i] * b[j] + o[i + j])) / 4294967296) ∧ c + (a[i] * b[j] + o[i + j]) < 18446744073709551616 ∧ a[i] * b[j] + o[i + j] < 18446744073709551616 ∧ a[i] * b[j] < 18446744073709551616 := by
  obtain ⟨h1, h2, h3, h4, h5⟩ := h
  have hai := ha.get i hi
  have hbj := hb.get j hj
  have hoj := h2.get (i + j) hij
  rw [B_eq] at hai hbj hoj h3
  have hm : a[i] * b[j] ≤ 4294967295 * 4294967295 := Nat.mul_le_mul (by omega) (by omega)
  have hs := nv_set o (i + j) ((c + (a[i] * b[j] + o[i + j])) % 4294967296) hij
  have hD : a.getD i 0 = a[i] := by simp [List.getD, hi]
  refine ⟨⟨by simpa using h1, h2.set _ _ (by rw [B_eq]; exact Nat.mod_lt _ (by decide)), by rw [B_eq]; omega, ?_, ?_⟩, by omega, by omega, by omega⟩
  · intro p hp hpp
    rw [List.getElem_set, if_neg (by omega)]
    exact h4 p (by simpa using hp) hpp
  · rw [hD] at h5 ⊢
    rw [nv_take_succ b j hj, show i + (j + 1) = (i + j) + 1 from rfl, Nat.pow_succ]
    have e := Nat.div_add_mod (c + (a[i] * b[j] + o[i + j])) 4294967296
    generalize (c + (a[i] * b[j] + o[i + j])) / 4294967296 = x at *
    generalize (c + (a[i] * b[j] + o[i + j])) % 4294967296 = y at *
    generalize nv (o.set (i + j) y) = no at *
    have e3 : B ^ (i + j) * B * x = B ^ (i + j) * (4294967296 * x) := by rw [B_eq, Nat.mul_assoc]
    have e4 : a[i] * B ^ i * (nv (b.take j) + B ^ j * b[j]) = a[i] * B ^ i * nv (b.take j) + B ^ (i + j) * (a[i] * b[j]) := by
      rw [Nat.mul_add, Nat.pow_add]
      congr 1
      ac_rfl
    rw [e3, e4]
    have e5 : B ^ (i + j) * (4294967296 * x) + B ^ (i + j) * y = B ^ (i + j) * c + (B ^ (i + j) * (a[i] * b[j]) + B ^ (i + j) * o[i + j]) := by
      rw [← Nat.mul_add, e, Nat.mul_add, Nat.mul_add]
    omega
theorem MulInv.row {a b o : List Nat} {i c : Nat} (h : MulInv a b o i b.length c) (hi : i < a.length) : MulInv a b (o.set (i + b.length) c) (i + 1) 0 0 := by
  obtain ⟨h1, h2, h3, h4, h5⟩ := h
  have hs := nv_set o (i + b.length) c (by omega)
  have hz := h4 (i + b.length) (by omega) (by omega)
  rw [hz, Nat.mul_zero, Nat.add_zero] at hs
  have hD : a.getD i 0 = a[i] := by simp [List.getD, hi]
  refine ⟨by simpa using h1, h2.set _ _ h3, B_pos, ?_, ?_⟩
  · intro p hp hpp
    rw [List.getElem_set, if_neg (by omega)]
    exact h4 p (by simpa using hp) (by omega)
  · rw [List.take_zero, show nv [] = 0 from rfl, Nat.mul_zero, Nat.mul_zero, Nat.add_zero, Nat.add_zero, hs, h5, hD, List.take_of_length_le (Nat.le_refl b.length), nv_take_succ a i hi, Nat.add_mul, Nat.mul_comm (B ^ i) a[i]]
theorem MulInv.done {a b o : List Nat} {c : Nat} (h : MulInv a b o a.length 0 c) (hc : c = 0) : nv o = nv a * nv b := by
  obtain ⟨h1, h2, h3, h4, h5⟩ := h
  subst hc
  simpa [nv] using h5
theorem lg_one_iff {n : Nat} (h0 : 0 < n) (h : n < 4294967296) : lg n = 1 := by
  have h1 : lg n ≤ 1 := lg_le.2 (by rw [Nat.pow_one, B_eq]; exact h)
  have := lg_pos h0
  omega
theorem canon_one {l : List Nat} {n : Nat} (h : Canon l n) (h0 : 0 < n) (h1 : n < 4294967296) : l = [n] := by
  have h2 := h.len
  rw [lg_one_iff h0 h1] at h2
  match l, h2 with
  | [d], _ => have := h.2.2; simp [nv] at this; rw [this]
theorem canon_of {n : Nat} (h0 : 0 < n) (h1 : n < 4294967296) : Canon [n] n := ⟨Dig.cons (by rw [B_eq]; exact h1) Dig.nil, by simp [validL]; omega, by simp [nv]⟩
theorem canon_nil_iff {l : List Nat} {n : Nat} (h : Canon l n) : l = [] ↔ n = 0 := by
  constructor
  · rintro rfl; exact h.2.2.symm
  · intro hn; have := h.len; rw [hn] at this; exact List.eq_nil_of_length_eq_zero this
theorem MulInv.step' {a b o : List Nat} {i j c x y z : Nat} (h : MulInv a b o i j c) (hi : i < a.length) (hj : j < b.length) (ha : Dig a) (hb : Dig b) (hij : i + j < o.length) (hx : a[i] = x) (hy : b[j] = y) (hz : o[i + j] = z) :
    MulInv a b (o.set (i + j) ((c + (x * y + z)) % 4294967296)) i (j + 1) ((c + (x * y + z)) / 4294967296) ∧ c + (x * y + z) < 18446744073709551616 := by
  subst hx; subst hy; subst hz
  exact ⟨(h.step hi hj ha hb hij).1, (h.step hi hj ha hb hij).2.1⟩
/-- After i rounds of the reference's addition. -/
def RAddInv (a b o : List Nat) (i c : Nat) : Prop := o.length = i ∧ Dig o ∧ c ≤ 1 ∧ nv o + B ^ i * c = nv (a.take i) + nv (b.take i)
theorem RAddInv.start (a b : List Nat) : RAddInv a b [] 0 0 := ⟨rfl, Dig.nil, by omega, by simp [nv]⟩
theorem nv_take_getD (a : List Nat) (i : Nat) : nv (a.take (i + 1)) = nv (a.take i) + B ^ i * a.getD i 0 := by
  by_cases h : i < a.length
  · rw [nv_take_succ a i h]; simp [List.getD, h]
  · rw [nv_take_ge a i (by omega)]; simp [List.getD, h]
theorem Dig.getD {a : List Nat} (ha : Dig a) (i : Nat) : a.getD i 0 < B := by
  by_cases h : i < a.length
  · simpa [List.getD, h] using ha.get i h
  · simpa [List.getD, h] using B_pos
theorem RAddInv.step {a b o : List Nat} {i c : Nat} (h : RAddInv a b o i c) (ha : Dig a) (hb : Dig b) :
    RAddInv a b (o ++ [(a.getD i 0 + b.getD i 0 + c) % 4294967296]) (i + 1) ((a.getD i 0 + b.getD i 0 + c) / 4294967296) := by
  obtain ⟨h1, h2, h3, h4⟩ := h
  have hx := ha.getD i
  have hy := hb.getD i
  have ea := nv_take_getD a i
  have eb := nv_take_getD b i
  unfold RAddInv
  rw [ea, eb]
  clear ea eb
  generalize a.getD i 0 = x at *
  generalize b.getD i 0 = y at *
  rw [B_eq] at hx hy
  refine ⟨by simp [h1], h2.append (Dig.cons (by rw [B_eq]; exact Nat.mod_lt _ (by decide)) Dig.nil), by omega, ?_⟩
  rw [nv_snoc, h1, Nat.pow_succ, Nat.mul_assoc]
  have e : (x + y + c) % 4294967296 + B * ((x + y + c) / 4294967296) = x + y + c := by rw [B_eq]; omega
  have e2 : B ^ i * ((x + y + c) % 4294967296) + B ^ i * (B * ((x + y + c) / 4294967296)) = B ^ i * x + B ^ i * y + B ^ i * c := by rw [← Nat.mul_add, e, Nat.mul_add, Nat.mul_add]
  omega
theorem RAddInv.done {a b o : List Nat} {c m : Nat} (h : RAddInv a b o (m + 1) c) (ha : Dig a) (hb : Dig b) (hal : a.length ≤ m) (hbl : b.length ≤ m) : nv o = nv a + nv b := by
  obtain ⟨h1, h2, h3, h4⟩ := h
  rw [List.take_of_length_le (by omega), List.take_of_length_le (by omega)] at h4
  have ha1 := Nat.lt_of_lt_of_le (nv_lt ha) (Nat.pow_le_pow_right B_pos hal)
  have hb1 := Nat.lt_of_lt_of_le (nv_lt hb) (Nat.pow_le_pow_right B_pos hbl)
  rw [Nat.pow_succ] at h4
  have hc : c = 0 := by
    rcases Nat.eq_zero_or_pos c with h | h
    · exact h
    · exfalso
      have h5 : B ^ m * B ≤ B ^ m * B * c := Nat.le_mul_of_pos_right _ h
      generalize B ^ m = p at *
      rw [B_eq] at h5 h4
      omega
  subst hc
  simpa using h4
end Go.Lim


namespace Go.Lim

theorem canon_len0 {l : List Nat} {n : Nat} (h : Canon l n) : l.length = 0 ↔ n = 0 := by
  rw [← canon_nil_iff h]; exact List.length_eq_zero_iff

/-- Is a sign with digits an integer in its only form? -/
def validZ (s : Bool) (m : List Nat) : Bool := validL m && (decide (0 < m.length) || !s)
/-- The value of a sign with digits: 0 if they are no integer in its only form. -/
noncomputable def zval (s : Bool) (m : List Nat) : Int := if validZ s m then (if s then -(nv m : Int) else nv m) else 0
/-- A sign and digits are the only form of z. -/
def CanZ (s : Bool) (m : List Nat) (z : Int) : Prop := s = decide (z < 0) ∧ Canon m z.natAbs

theorem CanZ.of_valid {s : Bool} {m : List Nat} (hd : Dig m) (h : validZ s m = true) : CanZ s m (zval s m) := by
  have hv : validL m = true := by unfold validZ at h; simp at h; exact h.1
  have hc : Canon m (nv m) := ⟨hd, hv, rfl⟩
  have h0 := canon_len0 hc
  unfold zval
  rw [if_pos h]
  cases s
  · simp only [Bool.false_eq_true, if_false]
    exact ⟨by simp, by simpa using hc⟩
  · have hm : 0 < m.length := by unfold validZ at h; simpa [hv] using h
    simp only [if_true]
    refine ⟨?_, by simpa using hc⟩
    have : nv m ≠ 0 := fun e => by rw [e] at h0; simp at h0; simp [h0] at hm
    symm; rw [decide_eq_true_eq]; omega
theorem CanZ.valid {s : Bool} {m : List Nat} {z : Int} (h : CanZ s m z) : validZ s m = true := by
  obtain ⟨hs, hm⟩ := h
  have h0 := canon_len0 hm
  unfold validZ
  rw [hm.2.1]
  by_cases hz : z < 0
  · have : 0 < m.length := by omega
    simp [this]
  · simp [hs, hz]
theorem CanZ.val {s : Bool} {m : List Nat} {z : Int} (h : CanZ s m z) : zval s m = z := by
  unfold zval
  rw [if_pos h.valid]
  obtain ⟨hs, hm⟩ := h
  rw [hm.2.2]
  by_cases hz : z < 0
  · simp only [hs, hz, decide_true, if_true]; omega
  · simp only [hs, hz, decide_false, Bool.false_eq_true, if_false]; omega
theorem CanZ.zero : CanZ false [] 0 := ⟨rfl, Canon.nil⟩
theorem CanZ.len {s : Bool} {m : List Nat} {z : Int} (h : CanZ s m z) : m.length = lg z.natAbs := h.2.len
theorem CanZ.len0 {s : Bool} {m : List Nat} {z : Int} (h : CanZ s m z) : m.length = 0 ↔ z = 0 := by
  have := canon_len0 h.2; omega
theorem zval_lg (s : Bool) (m : List Nat) (h : Dig m) : lg (zval s m).natAbs ≤ m.length := by
  cases hv : validZ s m
  · unfold zval; rw [hv]; simp [lg_zero]
  · exact Nat.le_of_eq (CanZ.of_valid h hv).len.symm
theorem zval_invalid {s : Bool} {m : List Nat} (h : validZ s m = false) : zval s m = 0 := by unfold zval; rw [h]; rfl

/-- The denominator asl it is laid: 0 stands for 1. -/
def dn (q : Rat) : Nat := if q.den = 1 then 0 else q.den
/-- A sign and two lists of digits are the only form of q. -/
def CanQ (s : Bool) (m d : List Nat) (q : Rat) : Prop := CanZ s m q.num ∧ Canon d (dn q)
noncomputable def validQ (s : Bool) (m d : List Nat) : Bool := validZ s m && validL d && (decide (d.length = 0) || (decide (0 < m.length) && !(nv d == 1) && (Nat.gcd (nv m) (nv d) == 1)))
noncomputable def qval (s : Bool) (m d : List Nat) : Rat := if validQ s m d then mkRat (zval s m) (if d.length = 0 then 1 else nv d) else 0

theorem CanQ.of_valid {s : Bool} {m d : List Nat} (hm : Dig m) (hd : Dig d) (h : validQ s m d = true) : CanQ s m d (qval s m d) := by
  have h' := h
  unfold validQ at h'
  simp only [Bool.and_eq_true] at h'
  obtain ⟨⟨h1, h2⟩, h3⟩ := h'
  have hz := CanZ.of_valid hm h1
  have hcd : Canon d (nv d) := ⟨hd, h2, rfl⟩
  have h0 := canon_len0 hcd
  unfold qval
  rw [if_pos h]
  by_cases hl : d.length = 0
  · rw [if_pos hl]
    have e : mkRat (zval s m) 1 = ((zval s m : Int) : Rat) := by rw [← Rat.mk_den_one]; rw [Rat.mk_eq_mkRat]
    rw [e]
    refine ⟨by simpa using hz, ?_⟩
    have : nv d = 0 := h0.1 hl
    simp only [dn, Rat.den_intCast, if_true]
    rw [this] at hcd; exact hcd
  · rw [if_neg hl]
    have hne : nv d ≠ 0 := fun e => hl (h0.2 e)
    simp [hl] at h3
    obtain ⟨⟨h4, h5⟩, h6⟩ := h3
    have habs : (zval s m).natAbs = nv m := by have := hz.2.2.2; omega
    have hg : (nv d).gcd (zval s m).natAbs = 1 := by rw [habs, Nat.gcd_comm]; exact h6
    have e1 : (mkRat (zval s m) (nv d)).num = zval s m := by rw [Rat.num_mkRat, if_neg hne, hg]; simp
    have e2 : (mkRat (zval s m) (nv d)).den = nv d := by rw [Rat.den_mkRat, if_neg hne, hg]; simp
    exact ⟨by rw [e1]; exact hz, by unfold dn; rw [e2, if_neg h5]; exact hcd⟩
theorem CanQ.valid {s : Bool} {m d : List Nat} {q : Rat} (h : CanQ s m d q) : validQ s m d = true := by
  obtain ⟨h1, h2⟩ := h
  have h3 := canon_len0 h2
  have h4 := h1.len0
  have h5 := q.reduced
  have h6 := q.den_nz
  unfold validQ
  rw [h1.valid, h2.2.1, h2.2.2, h1.2.2.2]
  by_cases hd : q.den = 1
  · have : d.length = 0 := by rw [h3]; unfold dn; rw [if_pos hd]
    simp [this]
  · have e : dn q = q.den := by unfold dn; rw [if_neg hd]
    rw [e] at h3 ⊢
    have hn : q.num ≠ 0 := fun e => by rw [e] at h5; simp [Nat.Coprime] at h5; exact hd h5
    have hm : 0 < m.length := by omega
    have hg : q.num.natAbs.gcd q.den = 1 := h5
    simp [hm, hd, hg]
theorem CanQ.val {s : Bool} {m d : List Nat} {q : Rat} (h : CanQ s m d q) : qval s m d = q := by
  unfold qval
  rw [if_pos h.valid]
  obtain ⟨h1, h2⟩ := h
  have h3 := canon_len0 h2
  rw [h1.val, h2.2.2]
  by_cases hd : q.den = 1
  · have : d.length = 0 := by rw [h3]; unfold dn; rw [if_pos hd]
    rw [if_pos this]
    conv => rhs; rw [← Rat.mkRat_self q]
    rw [hd]
  · have e : dn q = q.den := by unfold dn; rw [if_neg hd]
    have hl : d.length ≠ 0 := by rw [e] at h3; have := q.den_nz; omega
    rw [if_neg hl, e, Rat.mkRat_self]
theorem CanQ.zero : CanQ false [] [] 0 := ⟨CanZ.zero, by simp [dn]; exact Canon.nil⟩
theorem CanQ.ofInt {s : Bool} {m : List Nat} {z : Int} (h : CanZ s m z) : CanQ s m [] (z : Rat) := ⟨by simpa using h, by simp [dn]; exact Canon.nil⟩
theorem qval_invalid {s : Bool} {m d : List Nat} (h : validQ s m d = false) : qval s m d = 0 := by unfold qval; rw [h]; rfl

/-- The size of a rational number: digits of its numerator and of its denominator. -/
def hq (q : Rat) : Nat := max (lg q.num.natAbs) (lg q.den)
theorem hq_num (q : Rat) : lg q.num.natAbs ≤ hq q := Nat.le_max_left _ _
theorem hq_den (q : Rat) : lg q.den ≤ hq q := Nat.le_max_right _ _
theorem hq_dn (q : Rat) : lg (dn q) ≤ hq q := by
  unfold dn; split
  · simp [lg_zero]
  · exact hq_den q
theorem lg_one : lg 1 = 1 := lg_one_iff (by omega) (by omega)
theorem lg_two_pow_ge {n : Nat} (h : 0 < n) : 1 ≤ lg n := lg_pos h
theorem hq_pos (q : Rat) : 1 ≤ hq q := Nat.le_trans (lg_two_pow_ge q.den_pos) (hq_den q)
theorem hq_mkRat (z : Int) (d k : Nat) (h1 : lg z.natAbs ≤ k) (h2 : lg d ≤ k) (hk : 1 ≤ k) : hq (mkRat z d) ≤ k := by
  by_cases hd : d = 0
  · subst hd; rw [Rat.mkRat_zero]; unfold hq; simp [lg_zero, lg_one]; exact hk
  · unfold hq
    rw [Rat.num_mkRat, Rat.den_mkRat, if_neg hd, if_neg hd]
    refine Nat.max_le.2 ⟨Nat.le_trans (lg_mono ?_) h1, Nat.le_trans (lg_mono (Nat.div_le_self _ _)) h2⟩
    exact Int.natAbs_ediv_le_natAbs _ _
theorem hq_add (x y : Rat) : hq (x + y) ≤ hq x + hq y + 1 := by
  rw [Rat.add_def']
  refine hq_mkRat _ _ _ ?_ (Nat.le_trans (lg_mul _ _) (by have := hq_den x; have := hq_den y; omega)) (by omega)
  refine Nat.le_trans (lg_mono (Int.natAbs_add_le _ _)) ?_
  refine Nat.le_trans (lg_add _ _) ?_
  rw [Int.natAbs_mul, Int.natAbs_mul, Int.natAbs_natCast, Int.natAbs_natCast]
  have a1 := lg_mul x.num.natAbs y.den
  have a2 := lg_mul y.num.natAbs x.den
  have := hq_num x; have := hq_num y; have := hq_den x; have := hq_den y
  omega
theorem hq_mul (x y : Rat) : hq (x * y) ≤ hq x + hq y := by
  rw [Rat.mul_def']
  refine hq_mkRat _ _ _ ?_ (Nat.le_trans (lg_mul _ _) (by have := hq_den x; have := hq_den y; omega)) (by have := hq_pos x; omega)
  rw [Int.natAbs_mul]
  have := lg_mul x.num.natAbs y.num.natAbs
  have := hq_num x; have := hq_num y
  omega
theorem hq_neg (x : Rat) : hq (-x) = hq x := by unfold hq; simp
theorem hq_sub (x y : Rat) : hq (x - y) ≤ hq x + hq y + 1 := by
  rw [Rat.sub_eq_add_neg, ← hq_neg y]; exact hq_add _ _
theorem hq_zero : hq 0 = 1 := by unfold hq; simp [lg_zero, lg_one]
theorem hq_inv (x : Rat) : hq x⁻¹ ≤ hq x := by
  by_cases h : x = 0
  · subst h; simp
  · have hn : x.num ≠ 0 := fun e => h (Rat.num_eq_zero.1 e)
    unfold hq
    rw [Rat.num_inv, Rat.den_inv, if_neg hn, Int.natAbs_mul, Int.natAbs_sign_of_ne_zero hn, Nat.one_mul, Int.natAbs_natCast, Nat.max_comm]
    exact Nat.le_refl _
theorem hq_div (x y : Rat) : hq (x / y) ≤ hq x + hq y := by
  rw [Rat.div_def]; exact Nat.le_trans (hq_mul _ _) (by have := hq_inv y; omega)
theorem hq_int (z : Int) (k : Nat) (h : lg z.natAbs ≤ k) (hk : 1 ≤ k) : hq (z : Rat) ≤ k := by
  unfold hq; rw [Rat.num_intCast, Rat.den_intCast, lg_one]; exact Nat.max_le.2 ⟨h, hk⟩
theorem qval_hq (s : Bool) (m d : List Nat) (k : Nat) (hm : Dig m) (hd : Dig d) (h1 : m.length ≤ k) (h2 : d.length ≤ k) (hk : 1 ≤ k) : hq (qval s m d) ≤ k := by
  cases hv : validQ s m d
  · rw [qval_invalid hv, hq_zero]; exact hk
  · have hc := CanQ.of_valid hm hd hv
    have e1 := hc.1.len
    have e2 := hc.2.len
    unfold hq
    refine Nat.max_le.2 ⟨by omega, ?_⟩
    unfold dn at e2
    split at e2
    · rename_i h; rw [h, lg_one]; exact hk
    · omega

/-- What 'lowest' makes: both parts without their common divisor. -/
theorem CanQ.lowest {s : Bool} {n d : List Nat} {z : Int} {k : Nat} (hk : k ≠ 0) (hs : s = decide (z < 0)) (hn : Canon n (z.natAbs / Nat.gcd z.natAbs k)) (hd : Canon d (k / Nat.gcd z.natAbs k)) : CanQ s n (if k / Nat.gcd z.natAbs k = 1 then [] else d) (mkRat z k) := by
  have hg : 0 < Nat.gcd z.natAbs k := Nat.gcd_pos_of_pos_right _ (by omega)
  have e1 : (mkRat z k).num = z / (Nat.gcd z.natAbs k : Nat) := by rw [Rat.num_mkRat, if_neg hk, Nat.gcd_comm]
  have e2 : (mkRat z k).den = k / Nat.gcd z.natAbs k := by rw [Rat.den_mkRat, if_neg hk, Nat.gcd_comm]
  have hdv : ((Nat.gcd z.natAbs k : Nat) : Int) ∣ z := Int.ofNat_dvd_left.2 (Nat.gcd_dvd_left _ _)
  have e3 : (mkRat z k).num.natAbs = z.natAbs / Nat.gcd z.natAbs k := by rw [e1, Int.natAbs_ediv_of_dvd hdv, Int.natAbs_natCast]
  refine ⟨⟨?_, by rw [e3]; exact hn⟩, ?_⟩
  · rw [hs, Bool.eq_iff_iff]
    simp only [decide_eq_true_eq]
    rw [e1]
    obtain ⟨g, hgg⟩ : ∃ g, Nat.gcd z.natAbs k = g := ⟨_, rfl⟩
    rw [hgg] at hdv hg ⊢
    obtain ⟨c, rfl⟩ := hdv
    rw [Int.mul_ediv_cancel_left _ (by omega)]
    constructor
    · intro h
      by_cases h0 : c < 0
      · exact h0
      · have := Int.mul_nonneg (Int.natCast_nonneg g) (show 0 ≤ c by omega); omega
    · intro h
      exact Int.mul_neg_of_pos_of_neg (by omega) h
  · unfold dn
    rw [e2]
    split
    · exact Canon.nil
    · exact hd
end Go.Lim


namespace Go.Lin
open Go.Lim
/-- All numbers of a matrix have at most B digits. -/
def HB (B : Nat) (m : Mat) : Prop := ∀ i j, hq (ent m i j) ≤ B
theorem HB.pos {B : Nat} {m : Mat} (h : HB B m) : 1 ≤ B := Nat.le_trans (hq_pos _) (h 0 0)
theorem HB.mono {B C : Nat} {m : Mat} (h : HB B m) (hBC : B ≤ C) : HB C m := fun i j => Nat.le_trans (h i j) hBC
theorem HB.swap {n c B : Nat} {m : Mat} (h : HB B m) (hs : Shp n c m) {i k : Nat} (hi : i < n) (hk : k < n) : HB B (swapL m i k) := fun r j => by
  rw [ent_swap hs hi hk]; split
  · exact h _ _
  · split
    · exact h _ _
    · exact h _ _
theorem hq_elim {x y z u : Rat} {B : Nat} (hx : hq x ≤ B) (hy : hq y ≤ B) (hz : hq z ≤ B) (hu : hq u ≤ B) : hq (y / z) ≤ 2 * B ∧ hq (y / z * u) ≤ 3 * B ∧ hq (x - y / z * u) ≤ 5 * B := by
  have h1 := hq_div y z
  have h2 := hq_mul (y / z) u
  have h3 := hq_sub x (y / z * u)
  have h4 := hq_pos x
  omega
theorem HB.clear {n c B : Nat} {m : Mat} (h : HB B m) (hs : Shp n c m) {t : Nat} (ht : t < n) (col s : Nat) : HB (5 * B) (clear m t col s) := fun i j => by
  rw [ent_clear hs ht]; split
  · exact (hq_elim (h _ _) (h _ _) (h _ _) (h _ _)).2.2
  · have := h i j; omega
theorem HB.eN {n c B : Nat} {m : Mat} (h : HB B m) (hs : Shp n c m) (k : Nat) : HB (5 ^ (eN m k).2.1.length * B) (eN m k).1 := by
  induction k with
  | zero => simpa [Lin.eN] using h
  | succ k ih =>
    have hk := eN_ok hs k
    show HB (5 ^ (eStep (Lin.eN m k) k).2.1.length * B) (eStep (Lin.eN m k) k).1
    generalize Lin.eN m k = s at ih hk ⊢
    obtain ⟨M, p, odd⟩ := s
    have hM : Shp n c M := hk.shp
    have hl := hM.1
    have hle : p.length ≤ n := hk.ech.le
    unfold eStep
    dsimp only at ih ⊢
    split
    · exact ih
    · split
      · exact ih
      · rename_i e _ q hz
        obtain ⟨h1, h2⟩ := nzAt_some hz
        have := (ih.swap hM (show p.length < n by omega) (show p.length + q < n by omega)).clear (hM.swap (by omega) (by omega)) (show p.length < n by omega) k M.length
        refine this.mono ?_
        rw [List.length_append, List.length_singleton, Nat.pow_succ, Nat.mul_comm _ 5, Nat.mul_assoc]; exact Nat.le_refl _
theorem HB.divL {n c B : Nat} {m : Mat} (h : HB B m) (hs : Shp n c m) {i : Nat} (hi : i < n) (col : Nat) : HB (2 * B) (divL m i col) := fun k j => by
  rw [ent_divL hs hi]; split
  · have := hq_div (ent m i j) (ent m i col); have := h i j; have := h i col; omega
  · have := h k j; omega
theorem hq_elim2 {x y z u : Rat} {B : Nat} (hx : hq x ≤ B) (hy : hq y ≤ B) (hz : hq z ≤ 2 * B) (hu : hq u ≤ 2 * B) : hq (y / z) ≤ 3 * B ∧ hq (y / z * u) ≤ 5 * B ∧ hq (x - y / z * u) ≤ 7 * B := by
  have h1 := hq_div y z
  have h2 := hq_mul (y / z) u
  have h3 := hq_sub x (y / z * u)
  have h4 := hq_pos x
  omega
theorem HB.dStep {n c B : Nat} {m : Mat} (h : HB B m) (hs : Shp n c m) {t : Nat} (ht : t < n) (col s : Nat) : HB (7 * B) (above (Lin.divL m t col) t col s) := fun i j => by
  have hd := hs.divL ht col
  have h2 := h.divL hs ht col
  rw [ent_above hd ht]; split
  · refine (hq_elim2 ?_ ?_ (h2 _ _) (h2 _ _)).2.2
    · rw [ent_divL hs ht, if_neg (by omega)]; exact h _ _
    · rw [ent_divL hs ht, if_neg (by omega)]; exact h _ _
  · have := h2 i j; omega
theorem HB.dN {n c B : Nat} {m : Mat} {p : List Nat} (h : HB B m) (hs : Shp n c m) (he : Ech n c (ent m) p) (t : Nat) (ht : t ≤ p.length) : HB (7 ^ t * B) (dN m p t) := by
  induction t with
  | zero => simpa [Lin.dN] using h
  | succ t ih =>
    have hk := dN_ok hs he t (by omega)
    have hle := he.le
    refine ((ih (by omega)).dStep hk.shp (show t < n by omega) (p.getD t 0) t).mono ?_
    rw [Nat.pow_succ, Nat.mul_comm _ 7, Nat.mul_assoc]; exact Nat.le_refl _
theorem HB.pv {n c B : Nat} {m : Mat} (h : HB B m) (hs : Shp n c m) {i : Nat} (hi : i < n) (col : Nat) : HB (3 * B) (pv m i col) := fun k j => by
  rw [ent_pv hs hi]; split
  · have h1 := hq_mul (ent m i j) (1 / ent m i col); have h2 := hq_div 1 (ent m i col); have := h i j; have := h i col; have := hq_pos (ent m i j)
    have h3 : hq 1 = 1 := by decide +kernel
    omega
  · have := h k j; omega
theorem HB.out {n c B : Nat} {m : Mat} (h : HB B m) (hs : Shp n c m) {t : Nat} (ht : t < n) (col s : Nat) : HB (6 * B) (Lin.out (Lin.pv m t col) t col s) := fun i j => by
  have hd := hs.pv ht col
  have h2 := h.pv hs ht col
  rw [ent_outm hd ht]; split
  · rename_i a
    have e : ∀ j, ent (Lin.pv m t col) i j = ent m i j := fun j => by rw [ent_pv hs ht, if_neg a.1]
    rw [e, e]
    have h3 := hq_mul (ent (Lin.pv m t col) t j) (- ent m i col)
    have h4 := hq_add (ent m i j) (ent (Lin.pv m t col) t j * - ent m i col)
    rw [hq_neg] at h3
    have := h2 t j; have := h i j; have := h i col; have := h.pos
    omega
  · have := h2 i j; omega
end Go.Lin


namespace Go.Lin
open Go.Lim
/-- All numbers that the program's elimination meets are of few digits. -/
def Tame (m : Mat) (c : Nat) : Prop := ∃ B, 7 * B ≤ 68719476736 ∧ (∀ j, j ≤ c → HB B (eN m j).1) ∧ ∀ t, t ≤ (eN m c).2.1.length → HB B (dN (eN m c).1 (eN m c).2.1 t)
theorem pow_le (a : Nat) {i n : Nat} (ha : 0 < a) (h : i ≤ n) : a ^ i ≤ a ^ n := Nat.pow_le_pow_right ha h
/-- .. in its first phase alone. -/
def TameE (m : Mat) (c : Nat) : Prop := ∃ B, 7 * B ≤ 68719476736 ∧ ∀ j, j ≤ c → HB B (eN m j).1
theorem Tame.e {m : Mat} {c : Nat} (h : Tame m c) : TameE m c := let ⟨B, h1, h2, _⟩ := h; ⟨B, h1, h2⟩
end Go.Lin


namespace Go.Lin
open Go.Lim
theorem eN_len_succ (m : Mat) (k : Nat) : (eN m k).2.1.length ≤ (eN m (k + 1)).2.1.length := by
  show _ ≤ (eStep (eN m k) k).2.1.length
  unfold eStep
  split
  · exact Nat.le_refl _
  · split
    · exact Nat.le_refl _
    · simp
theorem eN_len_mono (m : Mat) {j : Nat} : ∀ {c : Nat}, j ≤ c → (eN m j).2.1.length ≤ (eN m c).2.1.length := by
  intro c
  induction c with
  | zero => intro h; obtain rfl : j = 0 := by omega
            exact Nat.le_refl _
  | succ c ih =>
    intro h
    rcases Nat.lt_or_ge j (c + 1) with h1 | h1
    · exact Nat.le_trans (ih (by omega)) (eN_len_succ m c)
    · obtain rfl : j = c + 1 := by omega
      exact Nat.le_refl _
theorem redP_piv (m : Mat) (c : Nat) : (redP m c).2 = (eN m c).2.1 := rfl
theorem tame_rank {n c B k : Nat} {m : Mat} (hs : Shp n c m) (h : HB B m) (hk : (redP m c).2.length ≤ k) (hB : 7 * (35 ^ k * B) ≤ 68719476736) : Tame m c := by
  rw [redP_piv] at hk
  have hle : ∀ j, j ≤ c → (eN m j).2.1.length ≤ k := fun j hj => Nat.le_trans (eN_len_mono m hj) hk
  refine ⟨35 ^ k * B, hB, fun j hj => (h.eN hs j).mono (Nat.mul_le_mul_right _ ?_), fun t ht => (((h.eN hs c).dN (eN_ok hs c).shp (eN_ok hs c).ech t ht)).mono ?_⟩
  · exact Nat.le_trans (pow_le 5 (by omega) (hle j hj)) (Nat.pow_le_pow_left (by omega) k)
  · rw [← Nat.mul_assoc]
    refine Nat.mul_le_mul_right _ ?_
    rw [show (35 : Nat) = 7 * 5 from rfl, Nat.mul_pow]
    exact Nat.mul_le_mul (pow_le 7 (by omega) (Nat.le_trans ht hk)) (pow_le 5 (by omega) hk)
theorem hb_redP_rank {n c B k : Nat} {m : Mat} (h : HB B m) (hs : Shp n c m) (hk : (redP m c).2.length ≤ k) : HB (35 ^ k * B) (redP m c).1 := by
  rw [redP_piv] at hk
  refine ((h.eN hs c).dN (eN_ok hs c).shp (eN_ok hs c).ech _ (Nat.le_refl _)).mono ?_
  rw [← Nat.mul_assoc]
  refine Nat.mul_le_mul_right _ ?_
  rw [show (35 : Nat) = 7 * 5 from rfl, Nat.mul_pow]
  exact Nat.mul_le_mul (pow_le 7 (by omega) hk) (pow_le 5 (by omega) hk)
theorem piv_le_cols {n c : Nat} {m : Mat} (hs : Shp n c m) : (redP m c).2.length ≤ c := by
  have hr := (redP_ok hs).2.1
  have hlt := hr.lt
  have hinc := hr.inc
  generalize (redP m c).2 = p at hlt hinc
  have key : ∀ i (hi : i < p.length), i ≤ p[i] := by
    intro i
    induction i with
    | zero => intro _; exact Nat.zero_le _
    | succ i ih => intro hi; have := ih (by omega); have := hinc i (i + 1) (by omega) hi; omega
  rcases Nat.eq_zero_or_pos p.length with h | h
  · omega
  · have := key (p.length - 1) (by omega)
    have := hlt (p.length - 1) (by omega)
    omega
theorem piv_le_rows {n c : Nat} {m : Mat} (hs : Shp n c m) : (redP m c).2.length ≤ n := (redP_ok hs).2.1.le
/-- The numbers of the null space are those of the reduced form. -/
theorem nullM_hb {n c B k : Nat} {m : Mat} (h : HB B m) (hs : Shp n c m) (hk : (redP m c).2.length ≤ k) : HB (35 ^ k * B) (nullM m c) := by
  have hr := (redP_ok hs).2.1
  have hb := hb_redP_rank h hs hk
  have hp := hb.pos
  intro i j
  unfold ent
  by_cases hi : i < (nullM m c).length
  · rw [show (nullM m c).getD i [] = (nullM m c)[i] by simp [List.getD_eq_getElem?_getD, hi]]
    by_cases hj : j < c
    · obtain ⟨q, hqe⟩ : ∃ q, (nullM m c)[i] = (List.range c).map (nv (ent (redP m c).1) (redP m c).2 q) := by
        have hm : (nullM m c)[i] ∈ nullM m c := List.getElem_mem _
        unfold nullM nullL at hm
        obtain ⟨q, _, hqe⟩ := List.mem_map.1 hm
        exact ⟨q, hqe.symm⟩
      rw [hqe]
      have : (List.map (nv (ent (redP m c).1) (redP m c).2 q) (List.range c)).getD j 0 = nv (ent (redP m c).1) (redP m c).2 q j := by
        simp [List.getD_eq_getElem?_getD, hj]
      rw [this]
      unfold nv
      split
      · have : hq (1 : Rat) ≤ 1 := by decide +kernel
        omega
      · split
        · rw [hq_neg]; exact hb _ _
        · rw [hq_zero]; exact hp
    · have hl : (nullM m c)[i].length = c := nullM_row _ (List.getElem_mem _)
      have : (nullM m c)[i].getD j 0 = 0 := by rw [List.getD_eq_getElem?_getD, List.getElem?_eq_none (by omega)]; rfl
      rw [this, hq_zero]; exact hp
  · have : (nullM m c).getD i [] = [] := by rw [List.getD_eq_getElem?_getD, List.getElem?_eq_none (by omega)]; rfl
    rw [this]
    have : ([] : List Rat).getD j 0 = 0 := rfl
    rw [this, hq_zero]; exact hp
theorem HB.app {B : Nat} {a b : Mat} (ha : HB B a) (hb : HB B b) : HB B (a ++ b) := by
  intro i j
  unfold ent
  by_cases hi : i < a.length
  · rw [show (a ++ b).getD i [] = a.getD i [] by simp [List.getD_eq_getElem?_getD, List.getElem?_append_left hi]]; exact ha i j
  · rw [show (a ++ b).getD i [] = b.getD (i - a.length) [] by simp [List.getD_eq_getElem?_getD, List.getElem?_append_right (Nat.le_of_not_lt hi)]]; exact hb _ j
end Go.Lin


namespace Go.Lin
theorem dep_map {c k : Nat} {z : List Vec} {f g h : Vec → Vec} (ha : ∀ u, ∀ v ∈ z, dot c u (f v) = dot c (g u) v) (hg : ∀ u, nz c u → nz c (g u)) (hh : ∀ u, nz c u → nz c (h u) ∧ ∀ j, j < c → g (h u) j = u j)
    (hd : IsDep c z k) : IsDep c (z.map f) k := by
  have cnt : ∀ u, cntGe c u (z.map f) = cntGe c (g u) z := fun u => by
    unfold cntGe
    rw [List.countP_map]
    exact List.countP_congr fun v hv => by simp only [Function.comp_def]; rw [ha u v hv]
  obtain ⟨⟨u, h1, h2⟩, h3⟩ := hd
  obtain ⟨h4, h5⟩ := hh u h1
  refine ⟨⟨h u, h4, ?_⟩, fun v hv => ?_⟩
  · rw [cnt, (vec_congr h5 z).2.2, h2]
  · rw [cnt]; exact h3 _ (hg v hv)
theorem dot2 (u v : Vec) : dot 2 u v = u 0 * v 0 + u 1 * v 1 := by simp only [dot, sm]; grind
theorem nz2 {u : Vec} : nz 2 u ↔ u 0 ≠ 0 ∨ u 1 ≠ 0 := by
  constructor
  · rintro ⟨j, hj, e⟩
    rcases (by omega : j = 0 ∨ j = 1) with rfl | rfl
    · exact .inl e
    · exact .inr e
  · rintro (e | e)
    · exact ⟨0, by omega, e⟩
    · exact ⟨1, by omega, e⟩
/-- An invertible map of the plane leaves the depth asl it is. -/
theorem dep_plane {k : Nat} {z : List Vec} (a b c d : Rat) (hD : a * d - b * c ≠ 0) (h : IsDep 2 z k) : IsDep 2 (z.map fun v j => if j = 0 then a * v 0 + b * v 1 else c * v 0 + d * v 1) k := by
  refine dep_map (g := fun u j => if j = 0 then a * u 0 + c * u 1 else b * u 0 + d * u 1) (h := fun u j => if j = 0 then (d * u 0 - c * u 1) / (a * d - b * c) else (a * u 1 - b * u 0) / (a * d - b * c)) (fun u v _ => ?_) (fun u hu => ?_) (fun u hu => ?_) h
  · rw [dot2, dot2]; simp only [if_true, Nat.one_ne_zero, if_false]; grind
  · rw [nz2] at hu ⊢
    simp only [if_true, Nat.one_ne_zero, if_false]
    apply Classical.byContradiction
    intro hn
    have h1 : a * u 0 + c * u 1 = 0 := Classical.byContradiction fun e => hn (.inl e)
    have h2 : b * u 0 + d * u 1 = 0 := Classical.byContradiction fun e => hn (.inr e)
    have h3 : (a * d - b * c) * u 0 = 0 := by grind
    have h4 : (a * d - b * c) * u 1 = 0 := by grind
    rcases Rat.mul_eq_zero.1 h3 with e | e
    · exact hD e
    · rcases Rat.mul_eq_zero.1 h4 with f | f
      · exact hD f
      · exact hu.elim (fun g => g e) fun g => g f
  · have key : ∀ x : Rat, x / (a * d - b * c) * (a * d - b * c) = x := fun x => Rat.div_mul_cancel hD
    have h0 := key (d * u 0 - c * u 1)
    have h1 := key (a * u 1 - b * u 0)
    obtain ⟨p, hp⟩ : ∃ p, (d * u 0 - c * u 1) / (a * d - b * c) = p := ⟨_, rfl⟩
    obtain ⟨q, hq⟩ : ∃ q, (a * u 1 - b * u 0) / (a * d - b * c) = q := ⟨_, rfl⟩
    rw [hp] at h0; rw [hq] at h1
    have hA : a * p + c * q = u 0 := by
      have : (a * p + c * q - u 0) * (a * d - b * c) = 0 := by grind
      rcases Rat.mul_eq_zero.1 this with e | e
      · grind
      · exact absurd e hD
    have hB : b * p + d * q = u 1 := by
      have : (b * p + d * q - u 1) * (a * d - b * c) = 0 := by grind
      rcases Rat.mul_eq_zero.1 this with e | e
      · grind
      · exact absurd e hD
    refine ⟨?_, fun j hj => ?_⟩
    · rw [nz2] at hu ⊢
      simp only [if_true, Nat.one_ne_zero, if_false]
      rw [hp, hq]
      apply Classical.byContradiction
      intro hn
      have e1 : p = 0 := Classical.byContradiction fun e => hn (.inl e)
      have e2 : q = 0 := Classical.byContradiction fun e => hn (.inr e)
      rw [e1, e2] at hA hB
      exact hu.elim (fun g => g (by grind)) fun g => g (by grind)
    · rcases (by omega : j = 0 ∨ j = 1) with rfl | rfl
      · simp only [if_true, Nat.one_ne_zero, if_false]; rw [hp, hq]; exact hA
      · simp only [if_true, Nat.one_ne_zero, if_false]; rw [hp, hq]; exact hB
theorem dep_congr {c k : Nat} {z y : List Vec} (hl : z.length = y.length) (h : ∀ i (h1 : i < z.length) (h2 : i < y.length), ∀ j, j < c → z[i] j = y[i] j) (hd : IsDep c z k) : IsDep c y k := by
  have cnt : ∀ u, cntGe c u y = cntGe c u z := fun u => by
    unfold cntGe
    clear hd
    induction z generalizing y with
    | nil => cases y with
      | nil => rfl
      | cons => simp at hl
    | cons a z ih => cases y with
      | nil => simp at hl
      | cons b y =>
        have h0 : ∀ j, j < c → a j = b j := h 0 (by simp) (by simp)
        have e : dot c u a = dot c u b := by rw [dot_comm, dot_comm c u b]; exact dot_congr h0
        rw [List.countP_cons, List.countP_cons, ih (by simpa using hl) fun i h1 h2 => h (i + 1) (by simpa using h1) (by simpa using h2), e]
  obtain ⟨⟨u, h1, h2⟩, h3⟩ := hd
  exact ⟨⟨u, h1, by rw [cnt, h2]⟩, fun v hv => by rw [cnt]; exact h3 v hv⟩
/-- Rows less a row. -/
def fromM (c : Nat) (p : Mat) (x : List Rat) : Mat := p.map fun r => (List.range c).map fun j => r.getD j 0 - x.getD j 0
theorem fromM_shp (c : Nat) (p : Mat) (x : List Rat) : Shp p.length c (fromM c p x) := ⟨by simp [fromM], fun r hr => by obtain ⟨_, _, rfl⟩ := List.mem_map.1 hr; simp⟩
theorem vec_from (c : Nat) (r x : List Rat) (j : Nat) (hj : j < c) : vec ((List.range c).map fun j => r.getD j 0 - x.getD j 0) j = vec r j - vec x j := by
  unfold vec
  rw [List.getD_eq_getElem?_getD, List.getElem?_map, List.getElem?_range hj]; rfl
theorem from_get {c : Nat} {p : Mat} {x : List Rat} (hs : ∀ r ∈ p, r.length = c) (hx : x.length = c) (j : Nat) (hj : j < p.length) (h : j < (fromM c p x).length) : (fromM c p x)[j] = List.zipWith (· - ·) p[j] x := by
  have hr := hs _ (List.getElem_mem hj)
  have e : (fromM c p x)[j] = (List.range c).map fun i => p[j].getD i 0 - x.getD i 0 := by simp [fromM]
  rw [e]
  refine List.ext_getElem (by simp; omega) fun i h1 h2 => ?_
  have hi : i < c := by simpa using h1
  simp [List.getD_eq_getElem?_getD, show i < p[j].length by omega, show i < x.length by omega]
end Go.Lin


namespace Go.Rep
open Go.RowKit

/-- The length in a slot: for a loop's measure. -/
def lenOf : Value → Nat | .slice _ n _ => n | _ => 0
theorem hid {p : Prop} (h : p) : Hid p := h
theorem ret_slice {a : Option Addr} {n m c : Nat} (h : n = m) : Ending.returned (.slice a n c) = .returned (.slice a m c) := by rw [h]
theorem ret_int {k : IntKind} {a b : Int} (h : a = b) : Ending.returned (.int k a) = .returned (.int k b) := by rw [h]
theorem ret_bool {a b : Bool} (h : a = b) : Ending.returned (.bool a) = .returned (.bool b) := by rw [h]

theorem cast_bne0 (n : Nat) : ((n : Int) != 0) = (n != 0) := by rw [Bool.eq_iff_iff]; simp
theorem cast_mod32 (n : Nat) (h : n < 4294967296) : (n : Int) % 4294967296 = n := by omega
theorem beqF {a b : Int} (h : a ≠ b) : (a == b) = false := by simpa using h
theorem bneF {a b : Int} (h : a = b) : (a != b) = false := by simpa using h
theorem beqT {a b : Int} (h : a = b) : (a == b) = true := by simpa using h
theorem bneT {a b : Int} (h : a ≠ b) : (a != b) = true := by simpa using h

/-- What is read at an address. -/
abbrev Mem := Addr → Option Value

/-- All that reads in h reads the same in h'. -/
def Le (h h' : Mem) : Prop := ∀ a u, h a = some u → h' a = some u
theorem Le.refl (h : Mem) : Le h h := fun _ _ x => x
theorem Le.trans {a b c : Mem} (h : Le a b) (k : Le b c) : Le a c := fun x u e => k x u (h x u e)

theorem cell_lt {w : World} {a : Addr} {u : Value} (h : w.cell? a = some u) : a.block < w.heap.size := by
  unfold World.cell? at h
  by_cases hl : a.block < w.heap.size
  · exact hl
  · rw [Array.getElem?_eq_none (by omega)] at h; simp at h

/-- Nothing that was there has turned, but for the blocks in Y. -/
structure ExtX (Y : Nat → Bool) (w w' : World) : Prop where
  os : w'.os = w.os
  tape : w'.tape = w.tape
  output : w'.output = w.output
  size : w.heap.size ≤ w'.heap.size
  block : ∀ k, k < w.heap.size → Y k = false → w'.heap[k]? = w.heap[k]?

def noY : Nat → Bool := fun _ => false
/-- Nothing that was there has turned. -/
abbrev Ext (w w' : World) : Prop := ExtX noY w w'
theorem ExtX.refl {Y : Nat → Bool} (w : World) : ExtX Y w w := ⟨rfl, rfl, rfl, Nat.le_refl _, fun _ _ _ => rfl⟩
theorem ExtX.trans {Y : Nat → Bool} {a b c : World} (h : ExtX Y a b) (k : ExtX Y b c) : ExtX Y a c :=
  ⟨k.os.trans h.os, k.tape.trans h.tape, k.output.trans h.output, Nat.le_trans h.size k.size, fun i hi hy => (k.block i (Nat.lt_of_lt_of_le hi h.size) hy).trans (h.block i hi hy)⟩
theorem ExtX.weaken {Y Z : Nat → Bool} {a b : World} (h : ExtX Y a b) (hz : ∀ k, k < a.heap.size → Z k = false → Y k = false) : ExtX Z a b :=
  ⟨h.os, h.tape, h.output, h.size, fun k hk hy => h.block k hk (hz k hk hy)⟩
theorem ExtX.of {Y : Nat → Bool} {a b : World} (h : Ext a b) : ExtX Y a b := h.weaken fun _ _ _ => rfl
theorem ExtX.alloc {Y : Nat → Bool} {a w : World} (h : ExtX Y a w) (o : Obj) : ExtX Y a (w.alloc o) :=
  h.trans ⟨rfl, rfl, rfl, by simp, fun k hk _ => Below.heap_alloc _ _ _ hk⟩
theorem ExtX.drew {Y : Nat → Bool} {a w : World} (h : ExtX Y a w) : ExtX Y a w.drew := ⟨h.os, h.tape, h.output, h.size, h.block⟩
theorem ExtX.drewN {Y : Nat → Bool} {a w : World} (h : ExtX Y a w) (n : Nat) : ExtX Y a (w.drewN n) := ⟨h.os, h.tape, h.output, h.size, h.block⟩
/-- A step that turns only blocks that are new, or in Y. -/
theorem ExtX.then_ {Y Z : Nat → Bool} {a b c : World} (h : ExtX Y a b) (k : ExtX Z b c) (hz : ∀ i, i < a.heap.size → Y i = false → Z i = false) : ExtX Y a c :=
  ⟨k.os.trans h.os, k.tape.trans h.tape, k.output.trans h.output, Nat.le_trans h.size k.size, fun i hi hy => (k.block i (Nat.lt_of_lt_of_le hi h.size) (hz i hi hy)).trans (h.block i hi hy)⟩
theorem ExtX.below {w w' : World} (h : Ext w w') : Below w.heap.size w w' := ⟨h.os, h.tape, h.output, h.size, fun k hk => h.block k hk rfl⟩
/-- What is read outside of the blocks in X. -/
def mk (X : Nat → Bool) (w : World) : Mem := fun a => if X a.block then none else w.cell? a
theorem mk_cell {X : Nat → Bool} {w : World} {a : Addr} {u : Value} (h : mk X w a = some u) : w.cell? a = some u := by
  unfold mk at h; split at h
  · simp at h
  · exact h
theorem mk_le (X : Nat → Bool) (w : World) : Le (mk X w) w.cell? := fun _ _ h => mk_cell h
theorem mk_noY (w : World) : mk noY w = w.cell? := by funext a; simp [mk, noY]
theorem mk_mono {X Y : Nat → Bool} {w w' : World} (h : ExtX Y w w') (hY : ∀ k, Y k = true → X k = true) : Le (mk X w) (mk X w') := by
  intro a u e
  have hc := mk_cell e
  have hl := cell_lt hc
  unfold mk at e ⊢
  by_cases hx : X a.block = true
  · simp [hx] at e
  · rw [if_neg hx]
    have hy : Y a.block = false := by
      cases hh : Y a.block
      · rfl
      · exact absurd (hY _ hh) hx
    rw [World.cell?_of_block (h.block a.block hl hy)]; exact hc
theorem mk_ext {X : Nat → Bool} {w w' : World} (h : Ext w w') : Le (mk X w) (mk X w') := mk_mono h (fun k hk => by simp [noY] at hk)
theorem mk_sub {X Z : Nat → Bool} {w : World} (h : ∀ k, k < w.heap.size → X k = true → Z k = true) : Le (mk Z w) (mk X w) := by
  intro a u e
  have hl := cell_lt (mk_cell e)
  have hc := mk_cell e
  unfold mk at e ⊢
  by_cases hx : X a.block = true
  · simp [h _ hl hx] at e
  · rw [if_neg hx]; exact hc
/-- From one mask to another, over a step: what the second hides is new, or was hidden. -/
theorem mk_over {X Y Z : Nat → Bool} {w w' : World} (h : ExtX Y w w') (hY : ∀ k, k < w.heap.size → Y k = true → X k = true) (hZ : ∀ k, k < w.heap.size → Z k = true → X k = true) : Le (mk X w) (mk Z w') := by
  intro a u e
  have hc := mk_cell e
  have hl := cell_lt hc
  unfold mk at e ⊢
  by_cases hx : X a.block = true
  · simp [hx] at e
  · have hz : ¬ Z a.block = true := fun hz => hx (hZ _ hl hz)
    rw [if_neg hz]
    have hy : Y a.block = false := by
      cases hh : Y a.block
      · rfl
      · exact absurd (hY _ hl hh) hx
    rw [World.cell?_of_block (h.block a.block hl hy)]; exact hc
theorem ExtX.cell {w w' : World} (h : Ext w w') {a : Addr} {u : Value} (hc : w.cell? a = some u) : w'.cell? a = some u := by
  have := mk_ext (X := noY) h a u (by rw [mk_noY]; exact hc)
  rwa [mk_noY] at this
theorem ExtX.cellY {Y : Nat → Bool} {w w' : World} (h : ExtX Y w w') {a : Addr} {u : Value} (hc : w.cell? a = some u) (hy : Y a.block = false) : w'.cell? a = some u := by
  rw [World.cell?_of_block (h.block a.block (cell_lt hc) hy)]; exact hc
theorem cell_new {w : World} {cs : Array Value} {e : TypeId} (j : Nat) {u : Value} (h : cs[j]? = some u) : (w.alloc (.cells cs e)).cell? ⟨w.heap.size, j, none⟩ = some u := by
  unfold World.cell?
  rw [heap_alloc_new w]
  simpa using h
/-- The block of a slice. -/
def ob (ao : Option Addr) : Nat → Bool := fun k => match ao with | some a => a.block == k | none => false
def un (X : Nat → Bool) (ao : Option Addr) : Nat → Bool := fun k => X k || ob ao k
theorem un_left {X : Nat → Bool} {ao : Option Addr} {k : Nat} (h : X k = true) : un X ao k = true := by simp [un, h]
theorem un_right {X : Nat → Bool} {ao : Option Addr} {k : Nat} (h : ob ao k = true) : un X ao k = true := by simp [un, h]
theorem un_false {X : Nat → Bool} {ao : Option Addr} {k : Nat} (h : un X ao k = false) : X k = false ∧ ob ao k = false := by simpa [un] using h

/-- An address k cells behind a slice's head. -/
def adr (ao : Option Addr) (k : Nat) : Addr := ⟨(ao.getD ⟨0, 0, none⟩).block, (ao.getD ⟨0, 0, none⟩).off + k, none⟩
@[go_sem] theorem adr_add (ao : Option Addr) (k j : Nat) : (adr ao k).add j = adr ao (k + j) := by
  unfold adr; rw [Addr.add_lit, Nat.add_assoc]
theorem adr_some (b o k : Nat) : adr (some ⟨b, o, none⟩) k = ⟨b, o + k, none⟩ := rfl

/-- Where there is an element, there is an address. -/
def Hd (ao : Option Addr) (n : Nat) : Prop := 0 < n → ∃ b off, ao = some ⟨b, off, none⟩

/-- A slice at 'ao' whose elements (sz cells each) read asl the list l, each by R. -/
def Sl {α : Type} (R : Mem → Value → α → Prop) (sz : Nat) (h : Mem) (ao : Option Addr) (l : List α) : Prop :=
  Hd ao l.length ∧ ∀ i (hi : i < l.length), ∃ u : Value, u.cells.size = sz ∧ (∀ j (hj : j < u.cells.size), h (adr ao (i * sz + j)) = some u.cells[j]) ∧ R h u l[i]

def Mono {α : Type} (R : Mem → Value → α → Prop) : Prop := ∀ (h h' : Mem) (u : Value) (x : α), Le h h' → R h u x → R h' u x
/-- What R reads lies in one cell. -/
def OneCell {α : Type} (R : Mem → Value → α → Prop) : Prop := ∀ (h : Mem) (u : Value) (x : α), R h u x → u.cells = #[u]

theorem Sl.hd {α : Type} {R : Mem → Value → α → Prop} {sz : Nat} {h : Mem} {ao : Option Addr} {l : List α} (s : Sl R sz h ao l) : Hd ao l.length := s.1
theorem Sl.mono {α : Type} {R : Mem → Value → α → Prop} (hR : Mono R) {sz : Nat} {h h' : Mem} {ao : Option Addr} {l : List α} (hl : Le h h') (s : Sl R sz h ao l) : Sl R sz h' ao l := by
  refine ⟨s.1, fun i hi => ?_⟩
  obtain ⟨u, h1, h2, h3⟩ := s.2 i hi
  exact ⟨u, h1, fun j hj => hl _ _ (h2 j hj), hR _ _ _ _ hl h3⟩
theorem Sl.nil {α : Type} (R : Mem → Value → α → Prop) (sz : Nat) (h : Mem) (ao : Option Addr) : Sl R sz h ao [] :=
  ⟨fun h => by simp at h, fun i hi => by simp at hi⟩
theorem Sl.take {α : Type} {R : Mem → Value → α → Prop} {sz : Nat} {h : Mem} {ao : Option Addr} {l : List α} (s : Sl R sz h ao l) (n : Nat) : Sl R sz h ao (l.take n) := by
  refine ⟨fun hn => s.1 (by simp at hn; omega), fun i hi => ?_⟩
  have hi' : i < l.length := by simp at hi; omega
  obtain ⟨u, h1, h2, h3⟩ := s.2 i hi'
  exact ⟨u, h1, h2, by simpa using h3⟩

/-- A slice value that reads asl a list. -/
def SlV {α : Type} (R : Mem → Value → α → Prop) (sz : Nat) (h : Mem) (v : Value) (l : List α) : Prop :=
  ∃ ao cap, v = .slice ao l.length cap ∧ l.length ≤ cap ∧ Sl R sz h ao l
theorem SlV.mono {α : Type} {R : Mem → Value → α → Prop} (hR : Mono R) (sz : Nat) : Mono (SlV R sz) := by
  rintro h h' u x hl ⟨ao, cap, rfl, hc, hs⟩
  exact ⟨ao, cap, rfl, hc, hs.mono hR hl⟩
theorem SlV.one {α : Type} {R : Mem → Value → α → Prop} {sz : Nat} : OneCell (SlV R sz) := by
  rintro h u x ⟨ao, cap, rfl, _⟩; rfl
theorem SlV.zero {α : Type} (R : Mem → Value → α → Prop) (sz : Nat) (h : Mem) : SlV R sz h (.slice none 0 0) [] :=
  ⟨none, 0, rfl, Nat.le_refl _, Sl.nil _ _ _ _⟩

/-- A natural number in a cell of kind k. -/
def NatIn (k : IntKind) : Mem → Value → Nat → Prop := fun _ u x => u = .int k (x : Int)
theorem NatIn.mono (k : IntKind) : Mono (NatIn k) := fun _ _ _ _ _ h => h
theorem NatIn.one (k : IntKind) : OneCell (NatIn k) := by rintro h u x rfl; rfl
/-- An integer in a cell of kind k. -/
def IntIn (k : IntKind) : Mem → Value → Int → Prop := fun _ u x => u = .int k x
theorem IntIn.mono (k : IntKind) : Mono (IntIn k) := fun _ _ _ _ _ h => h
theorem IntIn.one (k : IntKind) : OneCell (IntIn k) := by rintro h u x rfl; rfl

/-- The one cell of an element. -/
theorem Sl.cell {α : Type} {R : Mem → Value → α → Prop} {h : Mem} {ao : Option Addr} {l : List α} (s : Sl R 1 h ao l) (h1 : OneCell R) (i : Nat) (hi : i < l.length) :
    ∃ u, h (adr ao i) = some u ∧ R h u l[i] := by
  obtain ⟨u, _, h2, h3⟩ := s.2 i hi
  have hc := h1 _ _ _ h3
  have h4 := h2 0 (by rw [hc]; exact Nat.one_pos)
  refine ⟨u, ?_, h3⟩
  rw [Nat.mul_one, Nat.add_zero] at h4
  rw [h4]
  simp [hc]
theorem Sl.nat {k : IntKind} {X : Nat → Bool} {w : World} {ao : Option Addr} {l : List Nat} (s : Sl (NatIn k) 1 (mk X w) ao l) (i : Nat) (hi : i < l.length) : w.cell? (adr ao i) = some (.int k (l[i] : Int)) := by
  obtain ⟨u, h1, rfl⟩ := s.cell (NatIn.one k) i hi
  exact mk_cell h1
theorem Sl.int {k : IntKind} {X : Nat → Bool} {w : World} {ao : Option Addr} {l : List Int} (s : Sl (IntIn k) 1 (mk X w) ao l) (i : Nat) (hi : i < l.length) : w.cell? (adr ao i) = some (.int k l[i]) := by
  obtain ⟨u, h1, rfl⟩ := s.cell (IntIn.one k) i hi
  exact mk_cell h1
theorem Sl.slice {α : Type} {R : Mem → Value → α → Prop} {sz : Nat} {X : Nat → Bool} {w : World} {ao : Option Addr} {l : List (List α)} (s : Sl (SlV R sz) 1 (mk X w) ao l) (i : Nat) (hi : i < l.length) :
    ∃ a c, w.cell? (adr ao i) = some (.slice a l[i].length c) ∧ l[i].length ≤ c ∧ Sl R sz (mk X w) a l[i] := by
  obtain ⟨u, h1, a, c, rfl, h2, h3⟩ := s.cell SlV.one i hi
  exact ⟨a, c, mk_cell h1, h2, h3⟩

/-- A slice type of the program: its element's type, cells, bytes, zero. -/
structure SliceT (P : Program) (t e sz by_ : Nat) (z : Value) : Prop where
  und : P.underlying t = some (.slice e)
  info : (P.info? e).map (fun i => (i.zero, i.size, i.bytes)) = some (some z, sz, by_)

/-- A type of the program: its cells. -/
def TyI (P : Program) (t sz : Nat) : Prop := ∃ ti, P.info? t = some ti ∧ ti.size = sz

section
variable {P : Program} {ops : Array Oper} {Q : Exit → Act → World → Prop} {rest : List Oper} {a : Act} {w : World}

theorem run_indexAt_adr {t e sz by_ : Nat} {z : Value} (T : SliceT P t e sz by_ z) (ao : Option Addr) (len cap : Nat) (k : IntKind) (n : Nat)
    (hb : Hd ao len) (hn : n < len) (w : World) :
    (Instr.indexAt t (.slice ao len cap) (.int k (n : Int))).run P w = .ok (.pointer (some (adr ao (n * sz)))) w := by
  obtain ⟨i, hi, hz, hsz, hby⟩ := info_parts T.info
  obtain ⟨b, off, rfl⟩ := hb (by omega)
  subst hsz
  have e : (⟨b, off, none⟩ : Addr).add (n * i.size) = ⟨b, off + n * i.size, none⟩ := Addr.add_lit _ _ _
  simp [Instr.indexAt, asIntOf, Sem.run_bind, run_underlying T.und, Result.andThen, hn, sizeOf, typeInfo, hi, adr, e]

theorem run_ix1 {t e by_ : Nat} {z : Value} (T : SliceT P t e 1 by_ z) (ao : Option Addr) (len cap : Nat) (k : IntKind) (n : Nat) {m : Int} (hb : Hd ao len) (hn : n < len) (hm : m = (n : Int)) (w : World) :
    (Instr.indexAt t (.slice ao len cap) (.int k m)).run P w = .ok (.pointer (some (adr ao n))) w := by
  subst hm
  rw [run_indexAt_adr (P := P) T ao len cap k n hb hn w, Nat.mul_one]

/-- The walk stands at an index of a slice whose elements are one cell each. -/
theorem up_ix1 {o : Oper} {K : Act → World → Prop} {t e by_ : Nat} {z : Value} (T : SliceT P t e 1 by_ z) {ao : Option Addr} {len cap : Nat} {k : IntKind} {m : Int}
    (h0 : 0 ≤ m ∧ m < (len : Int)) (hb : Hd ao len) (h : K (a.put o.dst (.pointer (some (adr ao m.toNat)))) w) :
    o.upon P a K Q ((Sem.run P (Instr.indexAt t (.slice ao len cap) (.int k m)) w).andThen fun v w => .ok (.value v) w) := by
  obtain ⟨n, rfl⟩ := Int.eq_ofNat_of_zero_le h0.1
  rw [run_indexAt_adr (P := P) T ao len cap k n hb (by omega) w, Nat.mul_one]
  exact h
/-- The walk stands at an index of a slice whose elements are some cells each. -/
theorem up_ixn {o : Oper} {K : Act → World → Prop} {t e sz by_ : Nat} {z : Value} (T : SliceT P t e sz by_ z) {ao : Option Addr} {len cap : Nat} {k : IntKind} {m : Int}
    (h0 : 0 ≤ m ∧ m < (len : Int)) (hb : Hd ao len) (h : K (a.put o.dst (.pointer (some (adr ao (m.toNat * sz))))) w) :
    o.upon P a K Q ((Sem.run P (Instr.indexAt t (.slice ao len cap) (.int k m)) w).andThen fun v w => .ok (.value v) w) := by
  obtain ⟨n, rfl⟩ := Int.eq_ofNat_of_zero_le h0.1
  rw [run_indexAt_adr (P := P) T ao len cap k n hb (by omega) w]
  exact h
end
end Go.Rep


namespace Go.Rep
open Go.RowKit

def cellsL (u : Value) : List Value := u.cells.toList

theorem flat_length {sz : Nat} : ∀ (us : List Value), (∀ u ∈ us, u.cells.size = sz) → (us.flatMap cellsL).length = us.length * sz
  | [], _ => by simp
  | u :: us, h => by
    rw [List.flatMap_cons, List.length_append, flat_length us (fun x hx => h x (List.mem_cons_of_mem _ hx)), List.length_cons, Nat.succ_mul]
    have : (cellsL u).length = sz := by simp [cellsL, h u (List.mem_cons_self ..)]
    omega

theorem flat_get {sz : Nat} : ∀ (us : List Value) (i j : Nat) (hi : i < us.length), (∀ u ∈ us, u.cells.size = sz) → j < sz → (us.flatMap cellsL)[i * sz + j]? = (cellsL us[i])[j]?
  | u :: us, i, j, hi, h, hj => by
    have hu : (cellsL u).length = sz := by simp [cellsL, h u (List.mem_cons_self ..)]
    rw [List.flatMap_cons]
    match i with
    | 0 =>
      simp only [Nat.zero_mul, Nat.zero_add, List.getElem_cons_zero]
      rw [List.getElem?_append_left (by omega)]
    | i + 1 =>
      rw [List.getElem?_append_right (by rw [hu, Nat.succ_mul]; omega), hu]
      have e : (i + 1) * sz + j - sz = i * sz + j := by rw [Nat.succ_mul]; omega
      rw [e]
      simpa using flat_get us i j (by simpa using hi) (fun x hx => h x (List.mem_cons_of_mem _ hx)) hj

theorem flat_set {sz : Nat} : ∀ (us : List Value) (i : Nat) (u : Value), i < us.length → (∀ u ∈ us, u.cells.size = sz) → u.cells.size = sz →
    (us.set i u).flatMap cellsL = (us.flatMap cellsL).take (i * sz) ++ cellsL u ++ (us.flatMap cellsL).drop (i * sz + sz)
  | v :: us, i, u, hi, h, hu => by
    have hv : (cellsL v).length = sz := by simp [cellsL, h v (List.mem_cons_self ..)]
    match i with
    | 0 =>
      simp only [List.set_cons_zero, List.flatMap_cons, Nat.zero_mul, List.take_zero, List.nil_append, Nat.zero_add]
      rw [List.drop_append_of_le_length (by omega), List.drop_of_length_le (by omega), List.nil_append]
    | i + 1 =>
      have ih := flat_set us i u (by simpa using hi) (fun x hx => h x (List.mem_cons_of_mem _ hx)) hu
      simp only [List.set_cons_succ, List.flatMap_cons]
      have e1 : (i + 1) * sz = (cellsL v).length + i * sz := by rw [Nat.succ_mul]; omega
      rw [ih, e1, List.take_length_add_append, Nat.add_assoc, List.drop_length_add_append]
      simp only [List.append_assoc]

/-- What R reads: asl many cells asl 'sz' says, each of them one cell. -/
structure Elem {α : Type} (R : Mem → Value → α → Prop) (sz : Nat) : Prop where
  mono : Mono R
  size : ∀ (h : Mem) (u : Value) (x : α), R h u x → u.cells.size = sz
  one : ∀ (h : Mem) (u : Value) (x : α), R h u x → ∀ c ∈ cellsL u, c.oneCell' = true
  pos : 0 < sz

theorem NatIn.elem (k : IntKind) : Elem (NatIn k) 1 := ⟨NatIn.mono k, by rintro h u x rfl; rfl, by rintro h u x rfl c hc; simp [cellsL, Value.cells] at hc; subst hc; rfl, Nat.one_pos⟩
theorem IntIn.elem (k : IntKind) : Elem (IntIn k) 1 := ⟨IntIn.mono k, by rintro h u x rfl; rfl, by rintro h u x rfl c hc; simp [cellsL, Value.cells] at hc; subst hc; rfl, Nat.one_pos⟩
theorem SlV.elem {α : Type} {R : Mem → Value → α → Prop} {sz : Nat} (h : Elem R sz) : Elem (SlV R sz) 1 :=
  ⟨SlV.mono h.mono sz, by rintro h u x ⟨ao, cap, rfl, _⟩; rfl, by rintro h u x ⟨ao, cap, rfl, _⟩ c hc; simp [cellsL, Value.cells] at hc; subst hc; rfl, Nat.one_pos⟩

/-- The list l lies in a slice that the call itself made (in a block from 'base' on, that X does not hide; its elements are read outside of X and of that block). -/
def OL {α : Type} (R : Mem → Value → α → Prop) (sz : Nat) (X : Nat → Bool) (base : Nat) (e : TypeId) (w : World) (ao : Option Addr) (cap : Nat) (l : List α) : Prop :=
  (∀ k, ob ao k = true → X k = false) ∧
  ∃ us : List Value, us.length = l.length ∧ (∀ u ∈ us, u.cells.size = sz) ∧ (∀ u ∈ us, ∀ c ∈ cellsL u, c.oneCell' = true) ∧ w.ownsRow base e sz (.slice ao l.length cap) l.length (us.flatMap cellsL) ∧
    ∀ i (hi : i < us.length) (hi' : i < l.length), R (mk (un X ao) w) us[i] l[i]

section
variable {α : Type} {R : Mem → Value → α → Prop} {sz : Nat} {X : Nat → Bool} {base : Nat} {e : TypeId} {w : World} {ao : Option Addr} {cap : Nat} {l : List α}

theorem OL.nil (R : Mem → Value → α → Prop) (sz : Nat) (X : Nat → Bool) (base : Nat) (e : TypeId) (w : World) : OL R sz X base e w none 0 [] :=
  ⟨fun _ h => by simp [ob] at h, [], rfl, by simp, by simp, World.ownsRow_nil w base e sz, fun i hi => by simp at hi⟩

theorem OL.form (h : OL R sz X base e w ao cap l) : (ao = none ∧ cap = 0 ∧ l = []) ∨ ∃ g cur, ao = some ⟨g, 0, none⟩ ∧ base ≤ g ∧ w.heap[g]? = some (.cells cur e (0, 0)) ∧ l.length ≤ cap ∧ cap ≤ maxLen ∧ cur.size = cap * sz := by
  obtain ⟨_, us, h1, h2, _, ⟨h3, h4⟩, h5⟩ := h
  rcases h4 with ⟨hv, hn⟩ | ⟨g, c, cur, hv, h6, h7, h8, h9, h10, h11⟩
  · left
    simp at hv
    exact ⟨hv.1, hv.2.2, List.eq_nil_of_length_eq_zero hn⟩
  · right
    simp at hv
    obtain ⟨rfl, rfl⟩ := hv
    exact ⟨g, cur, rfl, h6, h7, h8, h9, h10⟩

theorem OL.block (h : OL R sz X base e w ao cap l) {k : Nat} (hk : ob ao k = true) : base ≤ k ∧ k < w.heap.size := by
  rcases h.form with ⟨rfl, _⟩ | ⟨g, cur, rfl, h6, h7, _⟩
  · simp [ob] at hk
  · have : g = k := by simpa [ob] using hk
    subst this
    refine ⟨h6, ?_⟩
    by_cases hl : g < w.heap.size
    · exact hl
    · rw [Array.getElem?_eq_none (by omega)] at h7; simp at h7

theorem OL.ob_lt (h : OL R sz X base e w ao cap l) {k : Nat} (hk : k < base) : ob ao k = false := by
  cases hb : ob ao k
  · rfl
  · have := h.block hb; omega

theorem OL.lenCap (h : OL R sz X base e w ao cap l) : l.length ≤ cap := by
  rcases h.form with ⟨_, _, rfl⟩ | ⟨g, cur, _, _, _, h8, _⟩
  · simp
  · exact h8

theorem OL.hd (h : OL R sz X base e w ao cap l) : Hd ao l.length := by
  intro hn
  rcases h.form with ⟨_, _, rfl⟩ | ⟨g, cur, rfl, _⟩
  · simp at hn
  · exact ⟨g, 0, rfl⟩

/-- The cells of an owned list. -/
theorem OL.cells (h : OL R sz X base e w ao cap l) : ∃ us : List Value, us.length = l.length ∧ (∀ u ∈ us, u.cells.size = sz) ∧ (∀ u ∈ us, ∀ c ∈ cellsL u, c.oneCell' = true) ∧
    (∀ j u, (us.flatMap cellsL)[j]? = some u → w.cell? (adr ao j) = some u ∧ w.frozen? (adr ao j) = false) ∧ ∀ i (hi : i < us.length) (hi' : i < l.length), R (mk (un X ao) w) us[i] l[i] := by
  have hf := h.form
  obtain ⟨hx, us, h1, h2, h22, ⟨h3, h4⟩, h5⟩ := h
  refine ⟨us, h1, h2, h22, fun j u hj => ?_, h5⟩
  have hlt : j < l.length * sz := by
    rw [← h3]
    exact (List.getElem?_eq_some_iff.1 hj).1
  rcases hf with ⟨_, _, rfl⟩ | ⟨g, cur, rfl, h6, h7, h8, h9, h10⟩
  · simp at hlt
  rcases h4 with ⟨hv, hn⟩ | ⟨g', c, cur', hv, _, h7', _, _, _, h11⟩
  · simp at hv
  simp at hv
  obtain ⟨rfl, rfl⟩ := hv
  rw [h7] at h7'
  obtain rfl : cur = cur' := by simpa using h7'
  rw [← h11, List.getElem?_take_of_lt hlt] at hj
  have hadr : adr (some ⟨g, 0, none⟩) j = ⟨g, j, none⟩ := by simp [adr]
  rw [hadr]
  simp only [Array.getElem?_toList] at hj
  simp [World.cell?, World.frozen?, h7, hj]

/-- An owned list reads asl a list. -/
theorem OL.sl (hR : Elem R sz) (h : OL R sz X base e w ao cap l) : Sl R sz (mk X w) ao l := by
  refine ⟨h.hd, fun i hi => ?_⟩
  have hf := h.form
  have hx := h.1
  obtain ⟨us, h1, h2, _, h3, h5⟩ := h.cells
  have hi' : i < us.length := by omega
  refine ⟨us[i], h2 _ (List.getElem_mem _), fun j hj => ?_, hR.mono _ _ _ _ (mk_sub fun k _ hk => un_left hk) (h5 i hi' hi)⟩
  have hsz : us[i].cells.size = sz := h2 _ (List.getElem_mem _)
  have hget := flat_get us i j hi' h2 (by omega)
  have hc : (cellsL us[i])[j]? = some us[i].cells[j] := by simp [cellsL, hj]
  rw [hc] at hget
  have hg := (h3 _ _ hget).1
  unfold mk
  have : X (adr ao (i * sz + j)).block = false := by
    rcases hf with ⟨_, _, rfl⟩ | ⟨g, cur, rfl, _⟩
    · simp at hi
    · exact hx _ (by simp [ob, adr])
  rw [this]
  simpa using hg

/-- The one cell of an element of an owned list. -/
theorem OL.cell (h1c : OneCell R) (h : OL R 1 X base e w ao cap l) (i : Nat) (hi : i < l.length) :
    ∃ u, w.cell? (adr ao i) = some u ∧ w.frozen? (adr ao i) = false ∧ R (mk (un X ao) w) u l[i] := by
  obtain ⟨us, h1, h2, _, h3, h5⟩ := h.cells
  have hi' : i < us.length := by omega
  have hsz : us[i].cells.size = 1 := h2 _ (List.getElem_mem _)
  have hget := flat_get us i 0 hi' h2 (by omega)
  have hc : (cellsL us[i])[0]? = some us[i].cells[0] := by simp [cellsL]
  rw [hc] at hget
  have hu := h1c _ _ _ (h5 i hi' hi)
  have := h3 _ _ hget
  simp only [Nat.mul_one, Nat.add_zero, hu] at this
  exact ⟨us[i], this.1, this.2, h5 i hi' hi⟩

theorem OL.ext (hR : Elem R sz) {Y Z : Nat → Bool} {w' : World} (h : OL R sz X base e w ao cap l) (hE : ExtX Y w w') (hY : ∀ k, k < w.heap.size → Y k = true → X k = true) (hZ : ∀ k, k < w.heap.size → Z k = true → X k = true) : OL R sz Z base e w' ao cap l := by
  have hb := fun k (hk : ob ao k = true) => h.block hk
  obtain ⟨hx, us, h1, h2, h22, h3, h5⟩ := h
  refine ⟨fun k hk => ?_, us, h1, h2, h22, ?_, fun i hi hi' => hR.mono _ _ _ _ (mk_over hE (fun k hk hy => un_left (hY k hk hy)) (fun k hk hz => ?_)) (h5 i hi hi')⟩
  · cases hh : Z k
    · rfl
    · have := hZ k (hb k hk).2 hh; rw [hx k hk] at this; simp at this
  · refine ⟨h3.1, ?_⟩
    rcases h3.2 with h4 | ⟨g, c, cur, hv, h6, h7, h8⟩
    · exact .inl h4
    · refine .inr ⟨g, c, cur, hv, h6, ?_, h8⟩
      simp at hv
      obtain ⟨rfl, rfl⟩ := hv
      have hk : ob (some ⟨g, 0, none⟩) g = true := by simp [ob]
      rw [hE.block g (hb g hk).2, h7]
      cases hh : Y g
      · rfl
      · have := hY g (hb g hk).2 hh; rw [hx g hk] at this; simp at this
  · cases hh : Z k
    · simp [un, hh] at hz; exact un_right hz
    · exact un_left (hZ k hk hh)

theorem OL.ext0 (hR : Elem R sz) {w' : World} (h : OL R sz X base e w ao cap l) (hE : Ext w w') : OL R sz X base e w' ao cap l :=
  h.ext hR hE (fun k _ hk => by simp [noY] at hk) (fun _ _ h => h)
/-- A step that turns the call's own block alone. -/
theorem ExtX.own {Y : Nat → Bool} {w0 w' : World} (h : ExtX Y w0 w) (ho : OL R sz X base e w ao cap l) (hb : w0.heap.size ≤ base) (hE : ExtX (ob ao) w w') : ExtX Y w0 w' :=
  h.then_ hE fun i hi _ => by
    cases hk : ob ao i
    · rfl
    · have := ho.block hk; omega
/-- The blocks hidden behind an owned list are blocks of the world. -/
theorem OL.unX (h : OL R sz X base e w ao cap l) (hX : ∀ k, X k = true → k < w.heap.size) : ∀ k, un X ao k = true → k < w.heap.size := by
  intro k hk
  by_cases hx : X k = true
  · exact hX k hx
  · have : ob ao k = true := by simpa [un, hx] using hk
    exact (h.block this).2
/-- The call's own block is new, asl seen from a world before. -/
theorem OL.base_le (h : OL R sz X base e w ao cap l) {b' : Nat} (hb : b' ≤ base) : OL R sz X b' e w ao cap l := by
  obtain ⟨hx, us, h1, h2, h22, h3, h5⟩ := h
  refine ⟨hx, us, h1, h2, h22, ⟨h3.1, ?_⟩, h5⟩
  rcases h3.2 with h4 | ⟨g, c, cur, hv, h6, h8⟩
  · exact .inl h4
  · exact .inr ⟨g, c, cur, hv, by omega, h8⟩
end

section
variable {α : Type} {R : Mem → Value → α → Prop} {sz : Nat} {X : Nat → Bool} {base : Nat} {e : TypeId} {w : World} {ao : Option Addr} {cap : Nat} {l : List α} {P : Program}

/-- A list whose cells lie at an address. -/
def At (w : World) (ao : Option Addr) (us : List Value) : Prop := Hd ao us.length ∧ ∀ j u, (us.flatMap cellsL)[j]? = some u → w.cell? (adr ao j) = some u

theorem Sl.at_ (hR : Elem R sz) (h : Sl R sz (mk X w) ao l) : ∃ us : List Value, us.length = l.length ∧ At w ao us ∧ ∀ i (hi : i < us.length) (hi' : i < l.length), R (mk X w) us[i] l[i] := by
  have hpos := hR.pos
  have key : ∀ n, n ≤ l.length → ∃ us : List Value, us.length = n ∧ (∀ j u, (us.flatMap cellsL)[j]? = some u → w.cell? (adr ao j) = some u) ∧ ∀ i (hi : i < us.length) (hi' : i < l.length), R (mk X w) us[i] l[i] := by
    intro n
    induction n with
    | zero => intro _; exact ⟨[], rfl, by simp, by simp⟩
    | succ n ih =>
      intro hn
      obtain ⟨us, h1, h2, h3⟩ := ih (by omega)
      obtain ⟨u, h4, h5, h6⟩ := h.2 n (by omega)
      have hsz : ∀ v ∈ us, v.cells.size = sz := by
        intro v hv
        obtain ⟨i, hi, rfl⟩ := List.getElem_of_mem hv
        exact hR.size _ _ _ (h3 i hi (by omega))
      refine ⟨us ++ [u], by simp [h1], fun j x hj => ?_, fun i hi hi' => ?_⟩
      · rw [List.flatMap_append] at hj
        have hfl := flat_length us hsz
        by_cases hlt : j < us.length * sz
        · rw [List.getElem?_append_left (by omega)] at hj; exact h2 j x hj
        · rw [List.getElem?_append_right (by omega), hfl] at hj
          simp only [List.flatMap_cons, List.flatMap_nil, List.append_nil, cellsL] at hj
          obtain ⟨hj1, hj2⟩ := List.getElem?_eq_some_iff.1 hj
          have := h5 (j - us.length * sz) (by simpa using hj1)
          have ee : n * sz + (j - us.length * sz) = j := by rw [h1] at hlt ⊢; omega
          rw [ee] at this
          rw [mk_cell this]
          simp [← hj2]
      · by_cases hlt : i < us.length
        · simpa [List.getElem_append_left hlt] using h3 i hlt hi'
        · have : i = n := by simp at hi; omega
          subst this
          simpa [List.getElem_append_right, h1] using h6
  obtain ⟨us, h1, h2, h3⟩ := key l.length (Nat.le_refl _)
  exact ⟨us, h1, ⟨by rw [h1]; exact h.1, h2⟩, h3⟩

theorem adr_addr {ad : Addr} (h : ad.spot = none) (j : Nat) : adr (some ad) j = ad.add j := by
  cases ad; simp at h; subst h; rw [Addr.add_lit]; rfl

theorem mkun_over {w' : World} {ao' : Option Addr} (hE : ExtX (ob ao) w w') (ho : ao' = ao ∨ ∃ g, ao' = some ⟨g, 0, none⟩ ∧ w.heap.size ≤ g) : Le (mk (un X ao) w) (mk (un X ao') w') := by
  refine mk_over hE (fun k _ hk => un_right hk) fun k hk hz => ?_
  rcases ho with rfl | ⟨g, rfl, hg⟩
  · exact hz
  · by_cases hx : X k = true
    · exact un_left hx
    · have : g = k := by simpa [un, hx, ob] using hz
      omega

/-- append of some elements that lie at an address. -/
theorem OL.run_append {t by_ : Nat} {z : Value} (T : SliceT P t e sz by_ z) (hzs : z.cells.size = sz) (hR : Elem R sz) (h : OL R sz X base e w ao cap l) (hbase : base ≤ w.heap.size) (hX : ∀ k, X k = true → k < w.heap.size)
    (asl : Option Addr) (cs : Nat) (us' : List Value) (xs : List α) (hat : At w asl us') (hlen : us'.length = xs.length) (hxs : ∀ i (hi : i < us'.length) (hi' : i < xs.length), R (mk (un X ao) w) us'[i] xs[i])
    (hroom : (l.length + xs.length) * by_ ≤ 140737488355328) (hmax : l.length + xs.length ≤ 9223372036854775807) (ty : TypeId) :
    ∃ ao' cap' w', (Builtin.append_ #[t, t] ty #[.slice ao l.length cap, .slice asl xs.length cs]).run P w = .ok (.slice ao' (l ++ xs).length cap') w' ∧ OL R sz X base e w' ao' cap' (l ++ xs) ∧ ExtX (ob ao) w w' ∧
      (ao' = ao ∨ ∃ g, ao' = some ⟨g, 0, none⟩ ∧ w.heap.size ≤ g) := by
  obtain ⟨i, hi, hz, hsz, hby⟩ := info_parts T.info
  have hpos := hR.pos
  have hus' : ∀ u ∈ us', u.cells.size = sz := by
    intro v hv
    obtain ⟨i, hi, rfl⟩ := List.getElem_of_mem hv
    exact hR.size _ _ _ (hxs i hi (by omega))
  have hone' : ∀ u ∈ us'.flatMap cellsL, u.oneCell' = true := by
    intro c hc
    obtain ⟨v, hv, hcv⟩ := List.mem_flatMap.1 hc
    obtain ⟨i, hi, rfl⟩ := List.getElem_of_mem hv
    exact hR.one _ _ _ (hxs i hi (by omega)) c hcv
  by_cases hxe : xs = []
  · subst hxe
    have hu0 : us' = [] := List.eq_nil_of_length_eq_zero (by simpa using hlen)
    subst hu0
    refine ⟨ao, cap, w, ?_, by simpa using h, ExtX.refl w, .inl rfl⟩
    have hlc := h.lenCap
    have hsz' := hsz
    subst hsz
    cases asl with
    | none => cases ao <;> simp [Builtin.append_, run_underlying T.und, sizeOf, typeInfo, hi, Builtin.lenOf, Builtin.firstCells, hlc, storeCells]
    | some asl => cases ao <;> simp [Builtin.append_, run_underlying T.und, sizeOf, typeInfo, hi, Builtin.lenOf, Builtin.firstCells, loadCells, loadCellsFrom, hlc, storeCells]
  have hxpos : 0 < xs.length := by
    cases xs with
    | nil => exact absurd rfl hxe
    | cons x xs => simp
  obtain ⟨sb, so, rfl⟩ := hat.1 (by omega)
  have hnews : ∀ j u, (us'.flatMap cellsL)[j]? = some u → w.cell? ((⟨sb, so, none⟩ : Addr).add j) = some u := by
    intro j u hj
    rw [← adr_addr rfl]; exact hat.2 j u hj
  have hnl : (us'.flatMap cellsL).length = xs.length * i.size := by rw [flat_length us' hus', hlen, hsz]
  have hx := h.1
  have hcells := h.cells
  have hform := h.form
  obtain ⟨_, us, h1, h2, h22, h3, h5⟩ := h
  have hul : (us.flatMap cellsL).length = l.length * i.size := by rw [flat_length us h2, h1, hsz]
  have hfl : (us ++ us').flatMap cellsL = us.flatMap cellsL ++ us'.flatMap cellsL := List.flatMap_append
  have hnew : ∀ u ∈ us ++ us', u.cells.size = sz := by
    intro u hu
    rcases List.mem_append.1 hu with hu | hu
    · exact h2 u hu
    · exact hus' u hu
  have hnew1 : ∀ u ∈ us ++ us', ∀ c ∈ cellsL u, c.oneCell' = true := by
    intro u hu c hc
    rcases List.mem_append.1 hu with hu | hu
    · exact h22 u hu c hc
    · exact hone' c (List.mem_flatMap.2 ⟨u, hu, hc⟩)
  have hRs : ∀ (ao' : Option Addr) (w' : World), ExtX (ob ao) w w' → (ao' = ao ∨ ∃ g, ao' = some ⟨g, 0, none⟩ ∧ w.heap.size ≤ g) →
      ∀ i (hi : i < (us ++ us').length) (hi' : i < (l ++ xs).length), R (mk (un X ao') w') (us ++ us')[i] (l ++ xs)[i] := by
    intro ao' w' hE ho i hi hi'
    have hle := mkun_over (X := X) hE ho
    by_cases hlt : i < us.length
    · simpa [List.getElem_append_left hlt, List.getElem_append_left (show i < l.length by omega)] using hR.mono _ _ _ _ hle (h5 i hlt (by omega))
    · have hb1 : i - us.length < us'.length := by simp at hi; omega
      have := hR.mono _ _ _ _ hle (hxs (i - us.length) hb1 (by omega))
      simpa [List.getElem_append_right (show us.length ≤ i by omega), List.getElem_append_right (show l.length ≤ i by omega), h1] using this
  have grown : ∀ old, old < l.length + xs.length → ∃ g cur, g = w.heap.size ∧ cur = (us.flatMap cellsL).toArray ++ (us'.flatMap cellsL).toArray ++ Builtin.zeroCells z.cells (grownCap w (l.length + xs.length) old e - (l.length + xs.length)) ∧
      OL R sz X base e (w.drew.alloc (.cells cur e)) (some ⟨g, 0, none⟩) (grownCap w (l.length + xs.length) old e) (l ++ xs) ∧ ExtX (ob ao) w (w.drew.alloc (.cells cur e)) := by
    intro old ho
    refine ⟨_, _, rfl, rfl, ?_, ?_⟩
    · have hge := grownCap_ge w (l.length + xs.length) old e
      have hcm : grownCap w (l.length + xs.length) old e ≤ maxLen := grownCap_le_maxLen w (l.length + xs.length) old e (by simpa [maxLen] using hmax)
      have hE : ExtX (ob ao) w (w.drew.alloc (.cells ((us.flatMap cellsL).toArray ++ (us'.flatMap cellsL).toArray ++ Builtin.zeroCells z.cells (grownCap w (l.length + xs.length) old e - (l.length + xs.length))) e)) := ((ExtX.refl w).drew).alloc _
      refine ⟨fun k hk => ?_, us ++ us', by simp [h1, hlen], hnew, hnew1, ⟨by rw [hfl]; simp [hul, hnl, hsz, Nat.add_mul], .inr ⟨w.heap.size, _, _, by simp, hbase, heap_alloc_new w.drew _, by simpa using hge, hcm, ?_, ?_⟩⟩, hRs _ _ hE (.inr ⟨_, rfl, Nat.le_refl _⟩)⟩
      · have : w.heap.size = k := by simpa [ob] using hk
        cases hh : X k
        · rfl
        · have := hX k hh; omega
      · simp only [Array.size_append, List.size_toArray, size_zeroCells, hzs, hul, hnl, hsz, ← Nat.add_mul]
        congr 1; omega
      · rw [hfl]
        simp only [Array.toList_append, List.length_append]
        have hll : (l.length + xs.length) * sz = (us.flatMap cellsL ++ us'.flatMap cellsL).length := by simp [hul, hnl, hsz, Nat.add_mul]
        rw [hll]
        exact List.take_left
    · exact ((ExtX.refl w).drew).alloc _
  have hll : (l ++ xs).length = l.length + xs.length := List.length_append
  rcases hform with ⟨rfl, rfl, rfl⟩ | ⟨g, cur, rfl, h6, h7, h8, h9, h10⟩
  · have hu0 : us = [] := List.eq_nil_of_length_eq_zero (by simpa using h1)
    subst hu0
    obtain ⟨g, cur, rfl, hcur, hOL, hE⟩ := grown 0 (by simp; omega)
    have hr := run_append_nil (P := P) w t ty e i z T.und hi hz ⟨sb, so, none⟩ xs.length cs (us'.flatMap cellsL) hnl hnews hxpos (by simp at hmax; omega) (by simp at hroom; rw [hby]; omega)
    simp only [List.flatMap_nil, List.length_nil, Nat.zero_add, List.nil_append, Array.empty_append] at hOL hE hcur hr ⊢
    subst hcur
    exact ⟨_, _, _, hr, hOL, hE, .inr ⟨_, rfl, Nat.le_refl _⟩⟩
  · by_cases hroom' : l.length + xs.length ≤ cap
    · have hfit : l.length * i.size + (us'.flatMap cellsL).length ≤ cur.size := by rw [hnl, h10, ← hsz, ← Nat.add_mul]; exact Nat.mul_le_mul_right _ hroom'
      have hr := run_append_room (P := P) w t ty e i T.und hi g l.length cap cur h7 ⟨sb, so, none⟩ xs.length cs (us'.flatMap cellsL) hnl hnews hone' hroom' hfit
      have hE : ExtX (ob (some ⟨g, 0, none⟩)) w (w.setRow g (cur.toList.take (l.length * i.size) ++ us'.flatMap cellsL ++ cur.toList.drop (l.length * i.size + (us'.flatMap cellsL).length)).toArray) :=
        ⟨rfl, rfl, rfl, by simp, fun k _ hk => setRow_other w g k _ (fun ek => by subst ek; simp [ob] at hk)⟩
      refine ⟨_, _, _, by rw [hll]; exact hr, ⟨hx, us ++ us', by simp [h1, hlen], hnew, hnew1, ⟨by rw [hfl]; simp [hul, hnl, hsz, Nat.add_mul], .inr ⟨g, cap, _, by rw [hll], h6, setRow_heap w g cur _ e _ h7, by rw [hll]; exact hroom', h9, ?_, ?_⟩⟩, hRs _ _ hE (.inl rfl)⟩, hE, .inl rfl⟩
      · simp only [List.size_toArray, List.length_append, List.length_take, List.length_drop, Array.length_toList]; omega
      · rw [hfl, hll]
        rcases h3.2 with ⟨hv, _⟩ | ⟨g', c', cur', hv, _, h7', _, _, _, h11⟩
        · simp at hv
        simp at hv
        obtain ⟨rfl, rfl⟩ := hv
        rw [h7] at h7'
        obtain rfl : cur = cur' := by simpa using h7'
        have e1 : cur.toList.take (l.length * i.size) = us.flatMap cellsL := by rw [hsz]; exact h11
        rw [e1]
        have hll2 : (l.length + xs.length) * sz = (us.flatMap cellsL ++ us'.flatMap cellsL).length := by simp [hul, hnl, hsz, Nat.add_mul]
        rw [hll2]
        exact List.take_left
    · have holds : ∀ j u, (us.flatMap cellsL)[j]? = some u → w.cell? ((⟨g, 0, none⟩ : Addr).add j) = some u := h3.cells (g := g) rfl
      have hr := run_append_grow (P := P) w t ty e i z T.und hi hz ⟨g, 0, none⟩ l.length cap (us.flatMap cellsL) hul holds ⟨sb, so, none⟩ xs.length cs (us'.flatMap cellsL) hnl hnews (by omega) (by omega) (growslice_fits (by omega) (by rw [hby]; exact hroom))
      obtain ⟨g', cur', rfl, hcur, hOL, hE⟩ := grown cap (by omega)
      subst hcur
      exact ⟨_, _, _, by rw [hll]; exact hr, hOL, hE, .inr ⟨_, rfl, Nat.le_refl _⟩⟩

/-- make of a slice. -/
theorem OL.run_make {t by_ : Nat} {z : Value} (T : SliceT P t e sz by_ z) (hR : Elem R sz) (x0 : α) (hz : ∀ h, R h z x0) (hX : ∀ k, X k = true → k < w.heap.size) (hbase : base ≤ w.heap.size)
    (kl kc : IntKind) (n : Nat) (hroom : by_ * n ≤ 281474976710656) (hmax : n ≤ 9223372036854775807) :
    ∃ ao w', (Instr.makeSlice t (.int kl (n : Int)) (.int kc (n : Int))).run P w = .ok (.slice ao n n) w' ∧ OL R sz X base e w' ao n (List.replicate n x0) ∧ Ext w w' := by
  obtain ⟨i, hi, hiz, hsz, hby⟩ := info_parts T.info
  have hzs : z.cells.size = sz := hR.size (fun _ => none) z x0 (hz _)
  have hpos := hR.pos
  have hr := Go.run_make (P := P) w t e i z T.und hi hiz kl kc n n (by omega) (Int.le_refl _) (by rw [hby, ← Int.natCast_mul]; omega) (by omega)
  simp only [Int.toNat_natCast] at hr
  refine ⟨_, _, hr, ⟨fun k hk => ?_, List.replicate n z, by simp, by intro u hu; rw [List.eq_of_mem_replicate hu]; exact hzs, by intro u hu; rw [List.eq_of_mem_replicate hu]; exact hR.one (fun _ => none) z x0 (hz _), ⟨?_, .inr ⟨w.heap.size, n, _, by simp, hbase, heap_alloc_new w _, by simp, by simpa [maxLen] using hmax, by rw [size_madeCells, hsz], ?_⟩⟩, fun i hi hi' => by simpa using hz _⟩, (ExtX.refl w).alloc _⟩
  · have : w.heap.size = k := by simpa [ob] using hk
    cases hh : X k
    · rfl
    · have := hX k hh; omega
  · rw [flat_length (sz := sz) _ (by intro u hu; rw [List.eq_of_mem_replicate hu]; exact hzs)]
    simp
  · apply List.ext_getElem?
    intro j
    simp only [List.length_replicate]
    by_cases hj : j < n * sz
    · rw [List.getElem?_take_of_lt hj]
      have hg := flat_get (sz := sz) (List.replicate n z) (j / sz) (j % sz) (by simpa using Nat.div_lt_of_lt_mul (by rw [Nat.mul_comm]; exact hj)) (by intro u hu; rw [List.eq_of_mem_replicate hu]; exact hzs) (Nat.mod_lt _ hpos)
      have ej : j / sz * sz + j % sz = j := by rw [Nat.mul_comm]; exact Nat.div_add_mod j sz
      rw [ej] at hg
      rw [hg]
      simp [madeCells, hsz, hj, cellsL, hzs]
      rw [Array.getElem?_eq_getElem (by rw [hzs]; exact Nat.mod_lt _ hpos)]
      rw [getElem!_pos]
    · rw [List.getElem?_eq_none (by simp [size_madeCells, hsz]; omega), List.getElem?_eq_none]
      rw [flat_length (sz := sz) _ (by intro u hu; rw [List.eq_of_mem_replicate hu]; exact hzs)]
      simp; omega

/-- A store of an element. -/
theorem OL.run_store {t : TypeId} {ti : TypeInfo} (ht : P.info? t = some ti) (hts : ti.size = sz) (hR : Elem R sz) (h : OL R sz X base e w ao cap l) (i : Nat) (hi : i < l.length) (u : Value) (x : α) (hu : R (mk (un X ao) w) u x) :
    ∃ w', (storeVar t (adr ao (i * sz)) u).run P w = .ok () w' ∧ OL R sz X base e w' ao cap (l.set i x) ∧ ExtX (ob ao) w w' := by
  have hus := hR.size _ _ _ hu
  have hu1 := hR.one _ _ _ hu
  have hform := h.form
  obtain ⟨hx, us, h1, h2, h22, h3, h5⟩ := h
  rcases hform with ⟨rfl, rfl, rfl⟩ | ⟨g, cur, rfl, h6, h7, h8, h9, h10⟩
  · simp at hi
  have hadr : adr (some ⟨g, 0, none⟩) (i * sz) = ⟨g, i * sz, none⟩ := by simp [adr]
  have hsub : (i + 1) * sz ≤ l.length * sz := Nat.mul_le_mul_right _ hi
  have hsub2 : l.length * sz ≤ cap * sz := Nat.mul_le_mul_right _ h8
  rw [Nat.succ_mul] at hsub
  have hst := run_storeCells_at P g (i * sz) e (cellsL u) 0 cur w h7 (by simp [cellsL, hus, h10]; omega) hu1
  have hE : ExtX (ob (some ⟨g, 0, none⟩)) w (w.setRow g (cur.toList.take (i * sz + 0) ++ cellsL u ++ cur.toList.drop (i * sz + 0 + (cellsL u).length)).toArray) :=
    ⟨rfl, rfl, rfl, by simp, fun k _ hk => setRow_other w g k _ (fun ek => by subst ek; simp [ob] at hk)⟩
  have hne : ∀ v ∈ us.set i u, v.cells.size = sz := by
    intro v hv
    rcases List.mem_or_eq_of_mem_set hv with hv | rfl
    · exact h2 v hv
    · exact hus
  refine ⟨_, ?_, ⟨hx, us.set i u, by simp [h1], hne, ?_, ⟨?_, .inr ⟨g, cap, _, by simp, h6, setRow_heap w g cur _ e _ h7, by simpa using h8, h9, ?_, ?_⟩⟩, ?_⟩, hE⟩
  · rw [hadr]
    simp [storeVar, sizeOf, typeInfo, ht, hts, hus]
    simpa [cellsL] using hst
  · intro v hv
    rcases List.mem_or_eq_of_mem_set hv with hv | rfl
    · exact h22 v hv
    · exact hu1
  · rw [flat_length _ hne]; simp [h1]
  · have hlu : (cellsL u).length = sz := by simp [cellsL, hus]
    simp only [List.size_toArray, List.length_append, List.length_take, List.length_drop, Array.length_toList, hlu, h10, Nat.add_zero]
    omega
  · rcases h3.2 with ⟨hv, _⟩ | ⟨g', c', cur', hv, _, h7', _, _, _, h11⟩
    · simp at hv
    simp at hv
    obtain ⟨rfl, rfl⟩ := hv
    rw [h7] at h7'
    obtain rfl : cur = cur' := by simpa using h7'
    have hlu : (cellsL u).length = sz := by simp [cellsL, hus]
    have hcl : cur.toList.length = cap * sz := by simp [h10]
    rw [flat_set us i u (by omega) h2 hus, ← h11]
    simp only [List.length_set, Nat.add_zero]
    have hA : (cur.toList.take (i * sz)).length = i * sz := by rw [List.length_take, hcl]; omega
    rw [hlu, List.take_append, List.take_of_length_le (by rw [List.length_append, hA, hlu]; omega), List.length_append, hA, hlu, List.take_take, Nat.min_eq_left (by omega), List.drop_take]
  · intro j hj hj'
    have hle : Le (mk (un X (some ⟨g, 0, none⟩)) w) (mk (un X (some ⟨g, 0, none⟩)) _) := mkun_over hE (.inl rfl)
    by_cases hji : i = j
    · subst hji; simpa using hR.mono _ _ _ _ hle hu
    · have := hR.mono _ _ _ _ hle (h5 j (by simpa using hj) (by simpa using hj'))
      simpa [List.getElem_set, hji] using this
end
end Go.Rep


namespace Go.Rep
open Go.RowKit

section
variable {P : Program} {ops : Array Oper} {Q : Exit → Act → World → Prop} {rest : List Oper} {a : Act} {w : World}
variable {α : Type} {R : Mem → Value → α → Prop} {sz : Nat} {X : Nat → Bool} {base : Nat} {e : TypeId} {ao : Option Addr} {cap : Nat} {l : List α}
variable {d : Option Tmp} {ty : TypeId} {ps : String} {af : Array Edge}

/-- A list laid in a new block. -/
theorem OL.lit (hR : Elem R sz) (hX : ∀ k, X k = true → k < w.heap.size) (hbase : base ≤ w.heap.size) (us : List Value) (l : List α) (arr : Array Value) (harr : arr = (us.flatMap cellsL).toArray) (hlen : us.length = l.length)
    (hu : ∀ i (hi : i < us.length) (hi' : i < l.length), R (mk X w) us[i] l[i]) (hmax : l.length ≤ 9223372036854775807) :
    OL R sz X base e (w.alloc (.cells arr e)) (some ⟨w.heap.size, 0, none⟩) l.length l := by
  subst harr
  have hsz : ∀ u ∈ us, u.cells.size = sz := by
    intro v hv
    obtain ⟨i, hi, rfl⟩ := List.getElem_of_mem hv
    exact hR.size _ _ _ (hu i hi (by omega))
  have hE : Ext w (w.alloc (.cells (us.flatMap cellsL).toArray e)) := (ExtX.refl w).alloc _
  refine ⟨fun k hk => ?_, us, hlen, hsz, ?_, ⟨by rw [flat_length us hsz, hlen], .inr ⟨w.heap.size, _, _, rfl, hbase, heap_alloc_new w _, Nat.le_refl _, by unfold maxLen; exact hmax, by simp [flat_length us hsz, hlen], ?_⟩⟩, fun i hi hi' => ?_⟩
  · have : w.heap.size = k := by simpa [ob] using hk
    cases hh : X k
    · rfl
    · have := hX k hh; omega
  · intro v hv
    obtain ⟨i, hi, rfl⟩ := List.getElem_of_mem hv
    exact hR.one _ _ _ (hu i hi (by omega))
  · rw [List.take_of_length_le]
    simp [flat_length us hsz, hlen]
  · refine hR.mono _ _ _ _ (mk_over hE (fun k _ hk => by simp [noY] at hk) fun k hk hz => ?_) (hu i hi hi')
    by_cases hx : X k = true
    · exact hx
    · have : w.heap.size = k := by simpa [un, hx, ob] using hz
      omega

theorem mk_new (X : Nat → Bool) (w : World) (o : Obj) : Le (mk X w) (mk (un X (some ⟨w.heap.size, 0, none⟩)) (w.alloc o)) :=
  mk_over ((ExtX.refl (Y := noY) w).alloc o) (fun k _ hk => by simp [noY] at hk) fun k hk hz => by
    by_cases hx : X k = true
    · exact hx
    · have : w.heap.size = k := by simpa [un, hx, ob] using hz
      omega

theorem at_new (w : World) (arr : Array Value) (e : TypeId) (u : Value) (harr : arr = u.cells) : At (w.alloc (.cells arr e)) (some ⟨w.heap.size, 0, none⟩) [u] := by
  subst harr
  refine ⟨fun _ => ⟨_, _, rfl⟩, fun j c hj => ?_⟩
  simp only [List.flatMap_cons, List.flatMap_nil, List.append_nil, cellsL, Array.getElem?_toList] at hj
  have h0 : adr (some ⟨w.heap.size, 0, none⟩) j = ⟨w.heap.size, j, none⟩ := by simp [adr]
  have h1 := heap_alloc_new w (.cells u.cells e)
  rw [h0]
  unfold World.cell?
  rw [h1]
  simpa using hj

/-- append(s, x) of one element, just laid in a block of its own. -/
theorem st_append1 {t by_ : Nat} {z : Value} {arr : Array Value} {s x : Operand} (T : SliceT P t e sz by_ z) (hzs : z.cells.size = sz) (hR : Elem R sz) (hbase : base ≤ w.heap.size) (hX : ∀ k, X k = true → k < w.heap.size)
    (hs : a.eval s = .slice ao l.length cap) (hx : a.eval x = .slice (some ⟨w.heap.size, 0, none⟩) 1 1) (h : OL R sz X base e w ao cap l)
    (u : Value) (y : α) (harr : arr = u.cells) (hu : R (mk (un X ao) w) u y) (hroom : (l.length + 1) * by_ ≤ 140737488355328) (hmax : l.length + 1 ≤ 9223372036854775807)
    (K : ∀ ao' cap' w', OL R sz X base e w' ao' cap' (l ++ [y]) → ExtX (ob ao) w w' → (ao' = ao ∨ ∃ g, ao' = some ⟨g, 0, none⟩ ∧ w.heap.size ≤ g) → wpList P ops Q rest (a.put d (.slice ao' (l ++ [y]).length cap')) w') :
    wpList P ops Q (⟨d, .call { callee := .builtin .append, args := #[s, x], argTypes := #[t, t] }, ty, ps, af, none⟩ :: rest) a (w.alloc (.cells arr e)) := by
  refine wpList_plain rfl fun K' hK' => ?_
  have hE : Ext w (w.alloc (.cells arr e)) := (ExtX.refl w).alloc _
  have hsz : w.heap.size + 1 = (w.alloc (.cells arr e)).heap.size := by simp
  obtain ⟨ao', cap', w', hr, h2, h3, h4⟩ := (h.ext0 hR hE).run_append (P := P) T hzs hR (by omega) (fun k hk => by have := hX k hk; omega) (some ⟨w.heap.size, 0, none⟩) 1 [u] [y] (at_new w arr e u harr) rfl
    (fun i hi _ => by have : i = 0 := by simpa using hi
                      subst this; exact hR.mono _ _ _ _ (mk_ext hE) hu) (by simpa using hroom) (by simpa using hmax) ty
  unfold Oper.wp execOp
  simp only [resolve, invoke, builtin, Sem.run_bind, Sem.run_pure, Result.andThen_ok, List.map_toArray, List.map_cons, List.map_nil, hs, hx]
  rw [show ([y] : List α).length = 1 from rfl] at hr
  rw [hr]
  refine hK' _ _ (K ao' cap' w' h2 ((ExtX.of hE).trans h3) ?_)
  rcases h4 with h4 | ⟨g, h4, h5⟩
  · exact .inl h4
  · exact .inr ⟨g, h4, by omega⟩

/-- append(s, x...) of a list that is read outside of s's own block. -/
theorem st_appendl {t by_ : Nat} {z : Value} {s x : Operand} {asl : Option Addr} {cs : Nat} (T : SliceT P t e sz by_ z) (hzs : z.cells.size = sz) (hR : Elem R sz) (hbase : base ≤ w.heap.size) (hX : ∀ k, X k = true → k < w.heap.size)
    (xs : List α) (hs : a.eval s = .slice ao l.length cap) (hx : a.eval x = .slice asl xs.length cs) (h : OL R sz X base e w ao cap l)
    (hxs : Sl R sz (mk (un X ao) w) asl xs) (hroom : (l.length + xs.length) * by_ ≤ 140737488355328) (hmax : l.length + xs.length ≤ 9223372036854775807)
    (K : ∀ ao' cap' w', OL R sz X base e w' ao' cap' (l ++ xs) → ExtX (ob ao) w w' → (ao' = ao ∨ ∃ g, ao' = some ⟨g, 0, none⟩ ∧ w.heap.size ≤ g) → wpList P ops Q rest (a.put d (.slice ao' (l ++ xs).length cap')) w') :
    wpList P ops Q (⟨d, .call { callee := .builtin .append, args := #[s, x], argTypes := #[t, t] }, ty, ps, af, none⟩ :: rest) a w := by
  refine wpList_plain rfl fun K' hK' => ?_
  obtain ⟨us, h1, h2, h3⟩ := hxs.at_ hR
  obtain ⟨ao', cap', w', hr, h2, h3, h4⟩ := h.run_append (P := P) T hzs hR hbase hX asl cs us xs h2 h1 h3 hroom hmax ty
  unfold Oper.wp execOp
  simp only [resolve, invoke, builtin, Sem.run_bind, Sem.run_pure, Result.andThen_ok, List.map_toArray, List.map_cons, List.map_nil, hs, hx, hr]
  exact hK' _ _ (K ao' cap' w' h2 h3 h4)

/-- make of a slice. -/
theorem st_make {t by_ : Nat} {z : Value} {x y : Operand} {kl kc : IntKind} {m : Int} (T : SliceT P t e sz by_ z) (hR : Elem R sz) (x0 : α) (hz : ∀ h, R h z x0) (X : Nat → Bool) (hX : ∀ k, X k = true → k < w.heap.size) (base : Nat) (hbase : base ≤ w.heap.size)
    (n : Nat) (hl : a.eval x = .int kl m) (hc : a.eval y = .int kc m) (hm : m = (n : Int)) (hroom : by_ * n ≤ 281474976710656) (hmax : n ≤ 9223372036854775807)
    (K : ∀ ao w', OL R sz X base e w' ao n (List.replicate n x0) → Ext w w' → wpList P ops Q rest (a.put d (.slice ao n n)) w') :
    wpList P ops Q (⟨d, .makeSlice t x y, ty, ps, af, none⟩ :: rest) a w := by
  refine wpList_plain rfl fun K' hK' => ?_
  subst hm
  obtain ⟨ao, w', hr, h2, h3⟩ := OL.run_make (P := P) T hR x0 hz hX hbase kl kc n hroom hmax
  unfold Oper.wp
  simp [execOp, hl, hc, hr, Result.andThen]
  exact hK' _ _ (K ao w' h2 h3)

/-- A store of an element of an owned list. -/
theorem st_store {t : TypeId} {x y : Operand} {k : Nat} (hT : TyI P t sz) (hR : Elem R sz) (i : Nat) (hx : a.eval x = .pointer (some (adr ao k))) (hk : k = i * sz)
    (h : OL R sz X base e w ao cap l) (hi : i < l.length) (u : Value) (v : α) (hy : a.eval y = u) (hu : R (mk (un X ao) w) u v)
    (K : ∀ w', OL R sz X base e w' ao cap (l.set i v) → ExtX (ob ao) w w' → wpList P ops Q rest (a.put d undef) w') :
    wpList P ops Q (⟨d, .store t x y, ty, ps, af, none⟩ :: rest) a w := by
  refine wpList_plain rfl fun K' hK' => ?_
  subst hk
  obtain ⟨ti, ht, hts⟩ := hT
  obtain ⟨w', hr, h2, h3⟩ := h.run_store (P := P) ht hts hR i hi u v hu
  unfold Oper.wp
  simp [execOp, hx, hy, Instr.storeAt, Instr.sureAddr, hr, Result.andThen]
  exact hK' _ _ (K w' h2 h3)


/-- The address of a slice of a slice. -/
def subAddr (ao : Option Addr) (i m sz : Nat) : Option Addr := if m = i then ao else ao.map (·.add (i * sz))

theorem Sl.sub {h : Mem} (s : Sl R sz h ao l) (i j m : Nat) (hij : i ≤ j) (hjm : j ≤ m) (hjl : j ≤ l.length) : Sl R sz h (subAddr ao i m sz) ((l.take j).drop i) := by
  refine ⟨fun hn => ?_, fun k hk => ?_⟩
  · simp at hn
    obtain ⟨b, off, rfl⟩ := s.1 (by omega)
    have hm : ¬ m = i := by omega
    simp [subAddr, hm, Addr.add_lit]
  · simp at hk
    obtain ⟨b, off, rfl⟩ := s.1 (by omega)
    have hm : ¬ m = i := by omega
    obtain ⟨u, h1, h2, h3⟩ := s.2 (i + k) (by omega)
    refine ⟨u, h1, fun q hq => ?_, by simpa using h3⟩
    have := h2 q hq
    simp only [subAddr, hm, if_false, Option.map_some, Addr.add_lit, adr, Option.getD_some] at this ⊢
    rw [← this, Nat.add_mul]
    congr 2
    omega

theorem run_slice_i {t by_ : Nat} {z : Value} (T : SliceT P t e sz by_ z) (len cap : Nat) (k1 : IntKind) (i : Nat) (h1 : i ≤ len) (_h2 : len ≤ cap) (w : World) :
    (Instr.sliceAt t (.slice ao len cap) (some (.int k1 (i : Int))) none none).run P w = .ok (.slice (subAddr ao i cap sz) (len - i) (cap - i)) w := by
  obtain ⟨ti, hi, hz, hsz, hby⟩ := info_parts T.info
  have h1' : (i : Int) ≤ len := by omega
  simp [Instr.sliceAt, Instr.slice, run_underlying T.und, Instr.sliceBounds, run_sliceBound, h1', sizeOf, typeInfo, hi, hsz, subAddr]

theorem run_slice_ij {t by_ : Nat} {z : Value} (T : SliceT P t e sz by_ z) (len cap : Nat) (k1 k2 : IntKind) (i j : Nat) (h1 : i ≤ j) (h2 : j ≤ cap) (w : World) :
    (Instr.sliceAt t (.slice ao len cap) (some (.int k1 (i : Int))) (some (.int k2 (j : Int))) none).run P w = .ok (.slice (subAddr ao i cap sz) (j - i) (cap - i)) w := by
  obtain ⟨ti, hi, hz, hsz, hby⟩ := info_parts T.info
  have h1' : (i : Int) ≤ j := by omega
  have h2' : (j : Int) ≤ cap := by omega
  simp [Instr.sliceAt, Instr.slice, run_underlying T.und, Instr.sliceBounds, run_sliceBound, h1', h2', sizeOf, typeInfo, hi, hsz, subAddr]

/-- A store of a number into an owned list of numbers. -/
theorem st_storeNat {t : TypeId} {x y : Operand} {k : Nat} {kd : IntKind} {l : List Nat} {m : Int} (hT : TyI P t 1) (i : Nat) (v : Nat) (hx : a.eval x = .pointer (some (adr ao k))) (hk : k = i)
    (h : OL (NatIn kd) 1 X base e w ao cap l) (hi : i < l.length) (hy : a.eval y = .int kd m) (hm : m = (v : Int))
    (K : ∀ w', OL (NatIn kd) 1 X base e w' ao cap (l.set i v) → ExtX (ob ao) w w' → wpList P ops Q rest (a.put d undef) w') :
    wpList P ops Q (⟨d, .store t x y, ty, ps, af, none⟩ :: rest) a w :=
  st_store hT (NatIn.elem kd) i hx (by omega) h hi (.int kd m) v hy (by rw [hm]; rfl) K
/-- A store of a one-cell element, asl the walk writes it. -/
theorem OL.set1 {t : TypeId} (hT : TyI P t 1) (hR : Elem R 1) (h1c : OneCell R) (h : OL R 1 X base e w ao cap l) (i : Nat) (hi : i < l.length) (u : Value) (x : α) (hu : R (mk (un X ao) w) u x) :
    OL R 1 X base e (w.setCell (adr ao i) u) ao cap (l.set i x) ∧ ExtX (ob ao) w (w.setCell (adr ao i) u) := by
  obtain ⟨ti, ht, hts⟩ := hT
  obtain ⟨v, hc, hf, _⟩ := h.cell h1c i hi
  obtain ⟨w', hr, h2, h3⟩ := h.run_store (P := P) ht hts hR i hi u x hu
  have hcells := h1c _ _ _ hu
  have hone := hR.one _ _ _ hu u (by simp [cellsL, hcells])
  rw [Nat.mul_one] at hr
  have hw : w' = w.setCell (adr ao i) u := by
    simp only [storeVar, sizeOf, typeInfo, Sem.run_bind] at hr
    cases u <;> simp [Value.oneCell'] at hone <;> simp [program, Sem.run, ht, hts, Result.andThen, Value.cells, storeCells, store, Addr.add_zero', hc, hf] at hr <;> exact hr.symm
  subst hw
  exact ⟨h2, h3⟩
end
end Go.Rep


namespace Go.Proofs.YthipmbmjodhiiaaGreat
open Go.RowKit Go.Rep
theorem slU32 : SliceT Tryz.prog 30 103 1 4 (.int .u32 0) := ⟨Tryz.underlying30, by kernel_rfl⟩
theorem slInt : SliceT Tryz.prog 22 3 1 8 (.int .i64 0) := ⟨Tryz.underlying22, by kernel_rfl⟩
theorem infU32 : (Tryz.prog.info? 103).map (fun i => (i.zero, i.size, i.bytes)) = some (some (.int .u32 0), 1, 4) := by kernel_rfl
theorem infInt : (Tryz.prog.info? 3).map (fun i => (i.zero, i.size, i.bytes)) = some (some (.int .i64 0), 1, 8) := by kernel_rfl
theorem tyU32 : TyI Tryz.prog 103 1 := let ⟨i, h, _, h2, _⟩ := info_parts infU32; ⟨i, h, h2⟩
theorem tyInt : TyI Tryz.prog 3 1 := let ⟨i, h, _, h2, _⟩ := info_parts infInt; ⟨i, h, h2⟩
theorem infU32s : (Tryz.prog.info? 30).map (fun i => (i.zero, i.size, i.bytes)) = some (some (.slice none 0 0), 1, 24) := by kernel_rfl
theorem tyU32s : TyI Tryz.prog 30 1 := let ⟨i, h, _, h2, _⟩ := info_parts infU32s; ⟨i, h, h2⟩
end Go.Proofs.YthipmbmjodhiiaaGreat


namespace Go.Proofs.YthipmbmjodhiiaaGreat
open Go.RowKit Go.Rep Go.Lim

theorem valid_any (X : Nat → Bool) (ao : Option Addr) (l : List Nat) (cap : Nat) (w : World) (hs : Sl (NatIn .u32) 1 (mk X w) ao l) (hl : l.length ≤ 4398046511104) :
    Calls Tryz.prog 166 #[.slice ao l.length cap] w fun e w' => w = w' ∧ e = .returned (.bool (validL l)) := by
  have hh := hs.hd
  by_cases h0 : l.length = 0
  · have hl0 : l = [] := List.eq_nil_of_length_eq_zero h0
    subst hl0
    clear hs hh hl h0
    simp only [List.length_nil]
    go_enter Tryz.func166, Tryz.ntmps166
    go_wp2_with fail
    go_ret
    exact ⟨rfl, rfl⟩
  · have hc := hs.nat (l.length - 1) (by omega)
    have hv := hid (validL_last (l := l) (by omega))
    have hz : ((l.length : Int) == 0) = false := beqF (by omega)
    go_enter Tryz.func166, Tryz.ntmps166
    go_wp2_with (with_reducible refine up_ix1 slU32 (by omega) (by assumption) ?_)
    go_ret
    exact ⟨rfl, ret_bool (by rw [hv.out]; exact cast_bne0 _)⟩

/-- A number comes back, in some slice. -/
def NatOut (X : Nat → Bool) (w : World) (n : Nat) (e : Ending) (w' : World) : Prop :=
  Ext w w' ∧ ∃ ao cap l, e = .returned (.slice ao l.length cap) ∧ l.length ≤ cap ∧ Canon l n ∧ Sl (NatIn .u32) 1 (mk X w') ao l
/-- The first digits of the argument come back. -/
def TrimOut (X : Nat → Bool) (w : World) (ao : Option Addr) (l : List Nat) (cap : Nat) (e : Ending) (w' : World) : Prop :=
  w = w' ∧ ∃ l', e = .returned (.slice ao l'.length cap) ∧ l'.length ≤ l.length ∧ Canon l' (nv l) ∧ Sl (NatIn .u32) 1 (mk X w) ao l'
/-- The digits that count come back. -/
def ValOut (X : Nat → Bool) (w : World) (l : List Nat) (e : Ending) (w' : World) : Prop :=
  w = w' ∧ ∃ ao cap l', e = .returned (.slice ao l'.length cap) ∧ l'.length ≤ cap ∧ l'.length ≤ l.length ∧ Canon l' (val l) ∧ Sl (NatIn .u32) 1 (mk X w) ao l'

theorem trimmed_any (X : Nat → Bool) (ao : Option Addr) (l : List Nat) (cap : Nat) (w : World) (hs : Sl (NatIn .u32) 1 (mk X w) ao l) (hd : Dig l) (hl : l.length ≤ 4398046511104) (hcap : l.length ≤ cap) :
    Calls Tryz.prog 159 #[.slice ao l.length cap] w (TrimOut X w ao l cap) := by
  have hh := hs.hd
  go_enter Tryz.func159, Tryz.ntmps159
  go_wp2_with fail
  go_loop [3] (fun n => ∃ k : Nat, n = .int .i64 k ∧ Cut l k) (fun n => (intOf n).toNat)
  case atStart => exact ⟨_, rfl, Cut.all l⟩
  case round =>
    obtain ⟨k, rfl, hk⟩ := hrel
    have hkl := hk.1
    by_cases hlt : 0 < k
    · have hc := hs.nat (k - 1) (by omega)
      by_cases hz : l[k - 1] = 0
      · have hk' := hk.less hlt hz
        have hz' := hid hz
        rw [hz] at hc
        clear hz
        go_wp2_with (with_reducible refine up_ix1 slU32 (by omega) (by assumption) ?_)
        go_round
        case rel => exact ⟨k - 1, by go_num, hk'⟩
        case measure => simp [intOf]; omega
      · have hcn := hk.canon hd (.inr ⟨by omega, hz⟩)
        have hz' : ((l[k - 1] : Int) == 0) = false := beqF (by omega)
        go_wp2_with (with_reducible refine up_ix1 slU32 (by omega) (by assumption) ?_)
        go_ret
        exact ⟨rfl, l.take k, ret_slice (by simp; omega), by simp; omega, hcn, hs.take k⟩
    · have hcn := hk.canon hd (.inl (by omega))
      go_wp2_with fail
      go_ret
      exact ⟨rfl, l.take k, ret_slice (by simp; omega), by simp; omega, hcn, hs.take k⟩

theorem value_any (X : Nat → Bool) (ao : Option Addr) (l : List Nat) (cap : Nat) (w : World) (hs : Sl (NatIn .u32) 1 (mk X w) ao l) (hd : Dig l) (hl : l.length ≤ 4398046511104) (hcap : l.length ≤ cap) :
    Calls Tryz.prog 158 #[.slice ao l.length cap] w (ValOut X w l) := by
  cases hv : validL l
  · have hv' := hid hv
    go_enter Tryz.func158, Tryz.ntmps158
    go_wp2_with (go_at_call 166; refine (valid_any X _ _ _ _ hs hl).mono ?_; rintro e w' ⟨rfl, rfl⟩)
    go_ret
    have : vl l = [] := by unfold vl; rw [hv]; rfl
    exact ⟨rfl, none, 0, [], rfl, by simp, by simp, this ▸ vl_canon hd, Sl.nil _ _ _ _⟩
  · have hv' := hid hv
    go_enter Tryz.func158, Tryz.ntmps158
    go_wp2_with (go_at_call 166; refine (valid_any X _ _ _ _ hs hl).mono ?_; rintro e w' ⟨rfl, rfl⟩)
    go_ret
    have : vl l = l := by unfold vl; rw [hv]; rfl
    have hc := vl_canon hd
    rw [this] at hc
    exact ⟨rfl, ao, cap, l, rfl, hcap, Nat.le_refl _, hc, hs⟩

theorem fromUint_any (X : Nat → Bool) (n : Nat) (w : World) (hn : n < 18446744073709551616) (hX : ∀ k, X k = true → k < w.heap.size) :
    Calls Tryz.prog 160 #[.int .u64 n] w (NatOut X w n) := by
  have hO : OL (NatIn .u32) 1 X w.heap.size 103 (w.alloc (.cells #[.int .u32 ((n : Int) % 4294967296), .int .u32 ((n : Int) / 4294967296)] 103)) (some ⟨w.heap.size, 0, none⟩) 2 [n % 4294967296, n / 4294967296] :=
    OL.lit (NatIn.elem .u32) hX (Nat.le_refl _) [.int .u32 ((n % 4294967296 : Nat) : Int), .int .u32 ((n / 4294967296 : Nat) : Int)] [n % 4294967296, n / 4294967296] _ (by simp [cellsL, Value.cells]) rfl
      (fun i hi _ => by match i, hi with
                        | 0, _ => rfl
                        | 1, _ => rfl) (by simp)
  go_enter Tryz.func160, Tryz.ntmps160
  go_wp2_with fail
  refine (trimmed_any X _ [n % 4294967296, n / 4294967296] _ _ (hO.sl (NatIn.elem .u32)) (Dig.cons (by rw [B_eq]; exact Nat.mod_lt _ (by decide)) (Dig.cons (by rw [B_eq]; omega) Dig.nil)) (by simp) (by simp)).mono ?_
  rintro e w' ⟨rfl, l', rfl, hl', hc, hs'⟩
  go_wp2_with fail
  go_ret
  have hv : nv [n % 4294967296, n / 4294967296] = n := by simp only [nv, B_eq]; omega
  rw [hv] at hc
  exact ⟨(ExtX.refl w).alloc _, _, 2, _, rfl, by simpa using hl', hc, hs'⟩

theorem add32_any (x y c : Nat) (w : World) (hx : x < 4294967296) (hy : y < 4294967296) (hc : c ≤ 1) :
    Calls Tryz.prog 170 #[.int .u32 x, .int .u32 y, .int .u32 c] w fun e w' => w = w' ∧ e = .returned (.tuple #[.int .u32 ((x + y + c) % 4294967296 : Nat), .int .u32 ((x + y + c) / 4294967296 : Nat)]) := by
  go_enter Tryz.func170, Tryz.ntmps170
  go_wp2
  go_ret2
  exact ⟨rfl, by simp⟩

theorem add_any (X : Nat → Bool) (ao bo : Option Addr) (la lb : List Nat) (ca cb : Nat) (w : World) (hsa : Sl (NatIn .u32) 1 (mk X w) ao la) (hsb : Sl (NatIn .u32) 1 (mk X w) bo lb)
    (hda : Dig la) (hdb : Dig lb) (hla : la.length ≤ 1099511627776) (hlb : lb.length ≤ 1099511627776) (hca : la.length ≤ ca) (hcb : lb.length ≤ cb) (hX : ∀ k, X k = true → k < w.heap.size) (na nb : Nat) (hna : val la = na) (hnb : val lb = nb) :
    Calls Tryz.prog 152 #[.slice ao la.length ca, .slice bo lb.length cb] w (NatOut X w (na + nb)) := by
  go_enter Tryz.func152, Tryz.ntmps152
  go_wp2_with fail
  refine (value_any X _ _ _ _ hsa hda (by omega) hca).mono ?_
  rintro e w' ⟨rfl, ao1, ca1, a, rfl, hca1, hal, hcan, hsa1⟩
  go_wp2_with fail
  refine (value_any X _ _ _ _ hsb hdb (by omega) hcb).mono ?_
  rintro e w' ⟨rfl, bo1, cb1, b, rfl, hcb1, hbl, hcbn, hsb1⟩
  rw [hna] at hcan
  rw [hnb] at hcbn
  have hal' : a.length ≤ 1099511627776 := Nat.le_trans hal hla
  have hbl' : b.length ≤ 1099511627776 := Nat.le_trans hbl hlb
  clear hna hnb hal hbl hsa hsb hla hlb hca hcb
  go_upto_if 18 with (fail)
  go_cut [0, 1] (fun s0 s1 wx => wx = w ∧ ∃ ao bo a b ca cb, s0 = .slice ao a.length ca ∧ s1 = .slice bo b.length cb ∧ b.length ≤ a.length ∧ a.length ≤ 1099511627776 ∧ Sl (NatIn .u32) 1 (mk X w) ao a ∧ Sl (NatIn .u32) 1 (mk X w) bo b ∧ Dig a ∧ Dig b ∧ Hid (nv a + nv b = na + nb))
  case first =>
    go_wp2_with fail
    all_goals go_meet
    all_goals case rel => first | exact ⟨rfl, _, _, _, _, _, _, rfl, rfl, by omega, hbl', hsb1, hsa1, hcbn.1, hcan.1, hid (by rw [hcan.2.2, hcbn.2.2, Nat.add_comm])⟩ | exact ⟨rfl, _, _, _, _, _, _, rfl, rfl, by omega, hal', hsa1, hsb1, hcan.1, hcbn.1, hid (by rw [hcan.2.2, hcbn.2.2])⟩
  case rest =>
    clear hca1 hcan hsa1 hcb1 hcbn hsb1 hal' hbl' hda hdb
    clear a b ao1 bo1 ca1 cb1 ao bo la lb ca cb
    obtain ⟨rfl, ao, bo, a, b, ca, cb, rfl, rfl, hab, hal, hsa, hsb, hda, hdb, hsum⟩ := hcut
    have hha := hsa.hd
    have hhb := hsb.hd
    go_wp2_with (at_make; refine st_make slU32 (NatIn.elem .u32) 0 (fun _ => rfl) X hX wc.heap.size (Nat.le_refl _) (a.length + 1) rfl rfl (by omega) (by omega) (by omega) ?_; intro oo w1 hO hE1)
    go_loopw [6, 27] (fun c i wr => ∃ (k : Nat) (o : List Nat) (cy : Nat), i = .int .i64 k ∧ c = .int .u32 cy ∧ k ≤ a.length ∧ AddInv a b o k cy ∧ OL (NatIn .u32) 1 X wc.heap.size 103 wr oo (a.length + 1) o ∧ Ext wc wr) (fun _ i _ => a.length - (intOf i).toNat)
    case atStart => exact ⟨0, _, 0, rfl, rfl, by omega, AddInv.start a b, hO, hE1⟩
    case round =>
      obtain ⟨k, o, cy, rfl, rfl, hk, hinv, hOr, hEr⟩ := hrel
      clear hO hE1
      have hcy := hinv.2.2.1
      have hol := hid hinv.1
      have hho : Hd oo (a.length + 1) := hol.out ▸ hOr.hd
      by_cases hlt : k < a.length
      · have hca := (hsa.mono (NatIn.mono _) (mk_ext hEr)).nat k hlt
        have hak := hda.get k hlt
        rw [B_eq] at hak
        by_cases hkb : k < b.length
        · have hcb := (hsb.mono (NatIn.mono _) (mk_ext hEr)).nat k hkb
          have hbk := hdb.get k hkb
          rw [B_eq] at hbk
          have hst := hinv.step hlt (.inl ⟨hkb, rfl⟩) hda hdb
          go_wp2_with (first | (with_reducible refine up_ix1 slU32 (by omega) (by assumption) ?_) | (go_at_call 170; refine (add32_any _ _ _ _ hak hbk hcy).mono ?_; rintro e w' ⟨rfl, rfl⟩) | ((with_reducible show wpList _ _ _ (⟨_, .store _ _ _, _, _, _, _⟩ :: _) _ _); refine st_store tyU32 (NatIn.elem .u32) k rfl (Nat.mul_one k).symm hOr (by rw [hol.out]; omega) _ ((a[k] + b[k] + cy) % 4294967296) rfl rfl ?_; intro w2 hO2 hE2))
          go_roundw
          case rel => exact ⟨k + 1, _, _, by go_num, rfl, by omega, hst, hO2, hEr.own hOr (Nat.le_refl _) hE2⟩
          case measure => simp [intOf]; omega
        · have hst := hinv.step (y := 0) hlt (.inr ⟨by omega, rfl⟩) hda hdb
          go_wp2_with (first | (with_reducible refine up_ix1 slU32 (by omega) (by assumption) ?_) | (go_at_call 170; refine (add32_any _ 0 _ _ hak (by omega) hcy).mono ?_; rintro e w' ⟨rfl, rfl⟩) | ((with_reducible show wpList _ _ _ (⟨_, .store _ _ _, _, _, _, _⟩ :: _) _ _); refine st_store tyU32 (NatIn.elem .u32) k rfl (Nat.mul_one k).symm hOr (by rw [hol.out]; omega) _ ((a[k] + 0 + cy) % 4294967296) rfl rfl ?_; intro w2 hO2 hE2))
          go_roundw
          case rel => exact ⟨k + 1, _, _, by go_num, rfl, by omega, hst, hO2, hEr.own hOr (Nat.le_refl _) hE2⟩
          case measure => simp [intOf]; omega
      · have hke : k = a.length := by omega
        subst hke
        have hdn := hinv.done hab
        go_wp2_with (first | (with_reducible refine up_ix1 slU32 (by omega) (by assumption) ?_) | ((with_reducible show wpList _ _ _ (⟨_, .store _ _ _, _, _, _, _⟩ :: _) _ _); refine st_store tyU32 (NatIn.elem .u32) a.length rfl (Nat.mul_one _).symm hOr (by rw [hol.out]; omega) _ cy rfl rfl ?_; intro w2 hO2 hE2))
        obtain ⟨hd1, hd2, hd3⟩ := hdn
        have hd3' := hid hd3
        have hs3 := hO2.sl (NatIn.elem .u32)
        have hEE := hEr.own hOr (Nat.le_refl _) hE2
        rw [← hd3]
        clear hd3
        refine (trimmed_any X _ _ _ _ hs3 hd1 (by rw [hd3'.out]; omega) (by rw [hd3'.out]; omega)).mono ?_
        rintro e w' ⟨rfl, l', rfl, hl', hc, hs'⟩
        go_wp2_with fail
        go_ret
        rw [hd2, hsum.out] at hc
        exact ⟨hEE, _, _, _, rfl, by have h1 := hol.out; have h2 := hl'; (try simp only [List.length_set] at h2); omega, hc, hs'⟩
end Go.Proofs.YthipmbmjodhiiaaGreat

