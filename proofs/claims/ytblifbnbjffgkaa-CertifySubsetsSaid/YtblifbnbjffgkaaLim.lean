/- Natural numbers as lists of digits to the base 2^32, lowest first. Plain mathematics. Conditions: none. -/
namespace Go.Lim

/-- The base. -/
theorem B_ex : ∃ n : Nat, n = 4294967296 := ⟨_, rfl⟩
noncomputable def B : Nat := Classical.choose B_ex
theorem B_eq : B = 4294967296 := Classical.choose_spec B_ex
theorem B_pos : 0 < B := by rw [B_eq]; decide

noncomputable def nv : List Nat → Nat
  | [] => 0
  | d :: l => d + B * nv l
def Dig (l : List Nat) : Prop := ∀ d ∈ l, d < B
def validL (l : List Nat) : Bool := !(l.getLast? == some 0)
/-- The digits that count. -/
def vl (l : List Nat) : List Nat := if validL l then l else []
noncomputable def val (l : List Nat) : Nat := nv (vl l)
/-- The digits of n. -/
def Canon (l : List Nat) (n : Nat) : Prop := Dig l ∧ validL l = true ∧ nv l = n

theorem nv_append (a b : List Nat) : nv (a ++ b) = nv a + B ^ a.length * nv b := by
  induction a with
  | nil => simp [nv]
  | cons d a ih => simp only [List.cons_append, nv, ih, List.length_cons, Nat.pow_succ, Nat.mul_add]; rw [Nat.mul_comm (B ^ a.length) B, Nat.mul_assoc, Nat.add_assoc]
theorem nv_snoc (a : List Nat) (d : Nat) : nv (a ++ [d]) = nv a + B ^ a.length * d := by rw [nv_append]; simp [nv]
theorem nv_zeros (n : Nat) : nv (List.replicate n 0) = 0 := by
  induction n with
  | zero => rfl
  | succ n ih => simp [List.replicate_succ, nv, ih]
theorem Dig.nil : Dig [] := by intro d h; simp at h
theorem Dig.cons {d : Nat} {l : List Nat} (hd : d < B) (h : Dig l) : Dig (d :: l) := by
  intro x hx; rcases List.mem_cons.1 hx with rfl | hx
  · exact hd
  · exact h x hx
theorem Dig.append {a b : List Nat} (ha : Dig a) (hb : Dig b) : Dig (a ++ b) := by
  intro x hx; rcases List.mem_append.1 hx with h | h
  · exact ha x h
  · exact hb x h
theorem Dig.take {a : List Nat} (ha : Dig a) (n : Nat) : Dig (a.take n) := fun x hx => ha x (List.mem_of_mem_take hx)
theorem Dig.drop {a : List Nat} (ha : Dig a) (n : Nat) : Dig (a.drop n) := fun x hx => ha x (List.mem_of_mem_drop hx)
theorem Dig.get {a : List Nat} (ha : Dig a) (i : Nat) (h : i < a.length) : a[i] < B := ha _ (List.getElem_mem h)
theorem Dig.set {a : List Nat} (ha : Dig a) (i d : Nat) (hd : d < B) : Dig (a.set i d) := by
  intro x hx; rcases List.mem_or_eq_of_mem_set hx with h | rfl
  · exact ha x h
  · exact hd
theorem Dig.zeros (n : Nat) : Dig (List.replicate n 0) := by intro x hx; rw [List.eq_of_mem_replicate hx]; exact B_pos
theorem nv_lt {l : List Nat} (h : Dig l) : nv l < B ^ l.length := by
  induction l with
  | nil => simp [nv]
  | cons d l ih =>
    have h1 := ih (fun x hx => h x (List.mem_cons_of_mem _ hx))
    have h2 := h d (List.mem_cons_self ..)
    simp only [nv, List.length_cons, Nat.pow_succ]
    have : B * nv l + B ≤ B ^ l.length * B := by rw [← Nat.mul_succ, Nat.mul_comm]; exact Nat.mul_le_mul_right _ h1
    omega

theorem validL_nil : validL [] = true := rfl
theorem validL_snoc (l : List Nat) (d : Nat) : validL (l ++ [d]) = (d != 0) := by simp [validL, bne]
theorem validL_last {l : List Nat} (h : 0 < l.length) : validL l = (l[l.length - 1] != 0) := by
  unfold validL
  rw [List.getLast?_eq_getElem?, List.getElem?_eq_getElem (by omega)]
  simp [bne]
theorem vl_valid (l : List Nat) : validL (vl l) = true := by
  unfold vl; split
  · assumption
  · rfl
theorem vl_dig {l : List Nat} (h : Dig l) : Dig (vl l) := by
  unfold vl; split
  · exact h
  · exact Dig.nil
theorem vl_len (l : List Nat) : (vl l).length ≤ l.length := by unfold vl; split <;> simp
theorem vl_canon {l : List Nat} (h : Dig l) : Canon (vl l) (val l) := ⟨vl_dig h, vl_valid l, rfl⟩
theorem Canon.vl {l : List Nat} {n : Nat} (h : Canon l n) : vl l = l := by unfold Lim.vl; rw [h.2.1]; rfl
theorem Canon.val {l : List Nat} {n : Nat} (h : Canon l n) : val l = n := by unfold Lim.val; rw [h.vl]; exact h.2.2
theorem Canon.nil : Canon [] 0 := ⟨Dig.nil, rfl, rfl⟩

theorem snocInd {P : List Nat → Prop} (h0 : P []) (hs : ∀ l d, P l → P (l ++ [d])) (l : List Nat) : P l := by
  have : ∀ m : List Nat, P m.reverse := by
    intro m
    induction m with
    | nil => exact h0
    | cons d m ih => rw [List.reverse_cons]; exact hs _ _ ih
  simpa using this l.reverse

/-- The first k digits are all that count. -/
def Cut (l : List Nat) (k : Nat) : Prop := k ≤ l.length ∧ nv (l.take k) = nv l
theorem Cut.all (l : List Nat) : Cut l l.length := ⟨Nat.le_refl _, by rw [List.take_length]⟩
theorem Cut.less {l : List Nat} {k : Nat} (h : Cut l k) (hk : 0 < k) (h0 : l[k - 1]'(by have := h.1; omega) = 0) : Cut l (k - 1) := by
  refine ⟨by have := h.1; omega, ?_⟩
  have h1 := h.1
  have e : l.take k = l.take (k - 1) ++ [l[k - 1]'(by omega)] := by
    conv => lhs; rw [show k = (k - 1) + 1 from by omega]
    exact List.take_succ_eq_append_getElem (by omega)
  rw [← h.2, e, nv_snoc, h0]; simp
theorem Cut.canon {l : List Nat} {k : Nat} (h : Cut l k) (hd : Dig l) (hv : k = 0 ∨ ∃ h' : k - 1 < l.length, l[k - 1] ≠ 0) : Canon (l.take k) (nv l) := by
  refine ⟨hd.take k, ?_, h.2⟩
  have h1 := h.1
  rcases hv with rfl | ⟨h', h2⟩
  · rfl
  · by_cases hk : k = 0
    · subst hk; rfl
    rw [validL_last (by simp; omega)]
    have : (l.take k).length = k := by simp; omega
    simp [this, h2]
theorem Canon.unique {a b : List Nat} {n : Nat} (ha : Canon a n) (hb : Canon b n) : a = b := by
  induction a generalizing b n with
  | nil =>
    obtain ⟨h1, h2, h3⟩ := hb
    have hn : n = 0 := ha.2.2.symm
    subst hn
    clear ha
    induction b using snocInd with
    | h0 => rfl
    | hs l d ih =>
      rw [nv_snoc] at h3
      rw [validL_snoc] at h2
      have : 0 < B ^ l.length := Nat.pow_pos B_pos
      have hd : 0 < d := by simp at h2; omega
      have := Nat.mul_pos this hd
      omega
  | cons d a ih =>
    have cv : ∀ {d : Nat} {l : List Nat}, validL (d :: l) = true → validL l = true := by
      intro d l h
      cases l with
      | nil => rfl
      | cons x l => simpa [validL] using h
    obtain ⟨h1, h2, h3⟩ := ha
    obtain ⟨g1, g2, g3⟩ := hb
    cases b with
    | nil =>
      have hn : n = 0 := g3.symm
      have : Canon (d :: a) 0 := ⟨h1, h2, by rw [h3, hn]⟩
      clear ih
      exfalso
      have key : ∀ l : List Nat, Canon l 0 → l = [] := by
        intro l
        induction l using snocInd with
        | h0 => intro _; rfl
        | hs l d _ =>
          rintro ⟨_, k2, k3⟩
          rw [nv_snoc] at k3
          rw [validL_snoc] at k2
          have p1 : 0 < B ^ l.length := Nat.pow_pos B_pos
          have hd : 0 < d := by simp at k2; omega
          have := Nat.mul_pos p1 hd
          omega
      simpa using key _ this
    | cons c b =>
      have hd := h1 d (List.mem_cons_self ..)
      have hc := g1 c (List.mem_cons_self ..)
      simp only [nv] at h3 g3
      have e : d + B * nv a = c + B * nv b := by omega
      have hdc : d = c := by
        have := congrArg (· % B) e
        simpa [Nat.add_mul_mod_self_left, Nat.mod_eq_of_lt hd, Nat.mod_eq_of_lt hc] using this
      subst hdc
      have : B * nv a = B * nv b := by omega
      have hab : nv a = nv b := Nat.eq_of_mul_eq_mul_left B_pos this
      rw [ih (n := nv a) (b := b) ⟨fun x hx => h1 x (List.mem_cons_of_mem _ hx), cv h2, rfl⟩ ⟨fun x hx => g1 x (List.mem_cons_of_mem _ hx), cv g2, hab.symm⟩]

/-- After i rounds of an addition: the digits so far and the carry. -/
def AddInv (a b o : List Nat) (i c : Nat) : Prop := o.length = a.length + 1 ∧ Dig o ∧ c ≤ 1 ∧ nv (o.take i) + B ^ i * c = nv (a.take i) + nv (b.take i)
theorem take_set_succ (o : List Nat) (i d : Nat) (h : i < o.length) : (o.set i d).take (i + 1) = o.take i ++ [d] := by
  rw [List.take_succ_eq_append_getElem (by simpa using h), List.take_set, List.getElem_set_self]
  congr 1
  rw [List.set_eq_of_length_le (by simp; omega)]
theorem nv_take_succ (a : List Nat) (i : Nat) (h : i < a.length) : nv (a.take (i + 1)) = nv (a.take i) + B ^ i * a[i] := by
  rw [List.take_succ_eq_append_getElem h, nv_snoc]; congr 3; simp; omega
theorem nv_take_ge (a : List Nat) (i : Nat) (h : a.length ≤ i) : nv (a.take (i + 1)) = nv (a.take i) := by
  rw [List.take_of_length_le (by omega), List.take_of_length_le h]
theorem AddInv.start (a b : List Nat) : AddInv a b (List.replicate (a.length + 1) 0) 0 0 := ⟨by simp, Dig.zeros _, by omega, by simp [nv]⟩
theorem AddInv.step {a b o : List Nat} {i c y : Nat} (h : AddInv a b o i c) (hi : i < a.length) (hy : (∃ h : i < b.length, b[i] = y) ∨ (b.length ≤ i ∧ y = 0)) (ha : Dig a) (hb : Dig b) :
    AddInv a b (o.set i ((a[i] + y + c) % 4294967296)) (i + 1) ((a[i] + y + c) / 4294967296) := by
  obtain ⟨h1, h2, h3, h4⟩ := h
  have hai := ha.get i hi
  have hyB : y < B := by
    rcases hy with ⟨h, rfl⟩ | ⟨_, rfl⟩
    · exact hb.get i h
    · exact B_pos
  rw [B_eq] at hai hyB
  refine ⟨by simpa using h1, h2.set _ _ (by rw [B_eq]; exact Nat.mod_lt _ (by decide)), by omega, ?_⟩
  have hb2 : nv (b.take (i + 1)) = nv (b.take i) + B ^ i * y := by
    rcases hy with ⟨h, rfl⟩ | ⟨h, rfl⟩
    · exact nv_take_succ b i h
    · rw [nv_take_ge b i h]; simp
  rw [take_set_succ o i _ (by omega), nv_snoc, nv_take_succ a i hi, hb2, List.length_take, Nat.min_eq_left (by omega), Nat.pow_succ, Nat.mul_assoc]
  have e : (a[i] + y + c) % 4294967296 + B * ((a[i] + y + c) / 4294967296) = a[i] + y + c := by rw [B_eq]; omega
  have e2 : B ^ i * ((a[i] + y + c) % 4294967296) + B ^ i * (B * ((a[i] + y + c) / 4294967296)) = B ^ i * a[i] + B ^ i * y + B ^ i * c := by rw [← Nat.mul_add, e, Nat.mul_add, Nat.mul_add]
  omega
theorem AddInv.done {a b o : List Nat} {c : Nat} (h : AddInv a b o a.length c) (hab : b.length ≤ a.length) : Dig (o.set a.length c) ∧ nv (o.set a.length c) = nv a + nv b ∧ (o.set a.length c).length = a.length + 1 := by
  obtain ⟨h1, h2, h3, h4⟩ := h
  refine ⟨h2.set _ _ (by rw [B_eq]; omega), ?_, by simpa using h1⟩
  have e : o.set a.length c = (o.set a.length c).take (a.length + 1) := by rw [List.take_of_length_le (by simp; omega)]
  rw [e, take_set_succ o _ _ (by omega), nv_snoc, List.length_take, Nat.min_eq_left (by omega), h4, List.take_of_length_le (Nat.le_refl _), List.take_of_length_le hab]

/-- How many digits n has. -/
def lg (n : Nat) : Nat := if n = 0 then 0 else Nat.log2 n / 32 + 1
theorem B_two (m : Nat) : B ^ m = 2 ^ (32 * m) := by rw [Nat.pow_mul, B_eq]
theorem lg_le {n m : Nat} : lg n ≤ m ↔ n < B ^ m := by
  unfold lg
  by_cases h : n = 0
  · subst h; simp [Nat.pow_pos B_pos]
  · rw [if_neg h, B_two, ← Nat.log2_lt h]; omega
theorem Canon.len {l : List Nat} {n : Nat} (h : Canon l n) : l.length = lg n := by
  have h1 : lg n ≤ l.length := lg_le.2 (by rw [← h.2.2]; exact nv_lt h.1)
  obtain ⟨hd, hv, rfl⟩ := h
  induction l using snocInd with
  | h0 => rfl
  | hs l d _ =>
    rw [validL_snoc] at hv
    have hd : 0 < d := by simp at hv; omega
    have : ¬ lg (nv (l ++ [d])) ≤ l.length := by
      rw [lg_le, nv_snoc]
      have := Nat.mul_le_mul_left (B ^ l.length) hd
      omega
    simp at h1 ⊢
    omega
theorem lg_zero : lg 0 = 0 := rfl
theorem lg_mono {a b : Nat} (h : a ≤ b) : lg a ≤ lg b := lg_le.2 (Nat.lt_of_le_of_lt h (lg_le.1 (Nat.le_refl _)))
theorem lg_add (a b : Nat) : lg (a + b) ≤ max (lg a) (lg b) + 1 := by
  rw [lg_le]
  have h1 := (lg_le (n := a) (m := max (lg a) (lg b))).1 (Nat.le_max_left _ _)
  have h2 := (lg_le (n := b) (m := max (lg a) (lg b))).1 (Nat.le_max_right _ _)
  rw [Nat.pow_succ]
  have : 0 < B ^ max (lg a) (lg b) := Nat.pow_pos B_pos
  have := B_eq
  generalize B ^ max (lg a) (lg b) = p at *
  rw [B_eq]; omega
theorem lg_mul (a b : Nat) : lg (a * b) ≤ lg a + lg b := by
  rw [lg_le, Nat.pow_add]
  exact Nat.mul_lt_mul'' (lg_le.1 (Nat.le_refl _)) (lg_le.1 (Nat.le_refl _))
theorem lg_pos {a : Nat} (h : 0 < a) : 0 < lg a := by unfold lg; rw [if_neg (by omega)]; omega
theorem lg_eq_zero {a : Nat} (h : lg a = 0) : a = 0 := by
  rcases Nat.eq_zero_or_pos a with h1 | h1
  · exact h1
  · have := lg_pos h1; omega
theorem val_lg (l : List Nat) (h : Dig l) : lg (val l) ≤ l.length := by
  have := (vl_canon h).len; have := vl_len l; omega

/-- -1, 0 or 1. -/
def cmpN (a b : Nat) : Int := if a < b then -1 else if b < a then 1 else 0
theorem cmpN_of_len_lt {a b : List Nat} {m n : Nat} (ha : Canon a m) (hb : Canon b n) (h : a.length < b.length) : cmpN m n = -1 := by
  have : m < n := by
    rcases Nat.lt_or_ge m n with h1 | h1
    · exact h1
    · have := lg_mono h1; rw [← ha.len, ← hb.len] at this; omega
  simp [cmpN, this]
theorem cmpN_of_len_gt {a b : List Nat} {m n : Nat} (ha : Canon a m) (hb : Canon b n) (h : b.length < a.length) : cmpN m n = 1 := by
  have : n < m := by
    rcases Nat.lt_or_ge n m with h1 | h1
    · exact h1
    · have := lg_mono h1; rw [← ha.len, ← hb.len] at this; omega
  simp [cmpN, this, Nat.lt_asymm this]
theorem nv_split (a : List Nat) (k : Nat) (hk : k ≤ a.length) : nv a = nv (a.take k) + B ^ k * nv (a.drop k) := by
  have := nv_append (a.take k) (a.drop k)
  rw [List.take_append_drop, List.length_take, Nat.min_eq_left hk] at this
  exact this
theorem lt_of_digit {a b : List Nat} (ha : Dig a) {k : Nat} (hl : a.length = b.length) (h0 : 0 < k) (hk : k ≤ a.length) (hd : a.drop k = b.drop k) (h : a[k - 1]'(by omega) < b[k - 1]'(by omega)) : nv a < nv b := by
  rw [nv_split a k hk, nv_split b k (by omega), hd]
  have ha1 := nv_take_succ a (k - 1) (by omega)
  have hb1 := nv_take_succ b (k - 1) (by omega)
  rw [show k - 1 + 1 = k from by omega] at ha1 hb1
  have h1 := nv_lt (ha.take (k - 1))
  rw [List.length_take, Nat.min_eq_left (by omega)] at h1
  have h2 : B ^ (k - 1) * a[k - 1]'(by omega) + B ^ (k - 1) ≤ B ^ (k - 1) * b[k - 1]'(by omega) := by rw [← Nat.mul_succ]; exact Nat.mul_le_mul_left _ h
  omega
theorem cmpN_of_lt {a b : List Nat} {m n k : Nat} (ha : Canon a m) (hb : Canon b n) (hl : a.length = b.length) (h0 : 0 < k) (hk : k ≤ a.length) (hd : a.drop k = b.drop k) (h : a[k - 1]'(by omega) < b[k - 1]'(by omega)) : cmpN m n = -1 := by
  have := lt_of_digit ha.1 hl h0 hk hd h
  rw [ha.2.2, hb.2.2] at this
  simp [cmpN, this]
theorem cmpN_of_gt {a b : List Nat} {m n k : Nat} (ha : Canon a m) (hb : Canon b n) (hl : a.length = b.length) (h0 : 0 < k) (hk : k ≤ a.length) (hd : a.drop k = b.drop k) (h : b[k - 1]'(by omega) < a[k - 1]'(by omega)) : cmpN m n = 1 := by
  have := lt_of_digit hb.1 hl.symm h0 (by omega) hd.symm h
  rw [ha.2.2, hb.2.2] at this
  simp [cmpN, this, Nat.lt_asymm this]
theorem drop_eq_pred {a b : List Nat} {k : Nat} (hl : a.length = b.length) (h0 : 0 < k) (hk : k ≤ a.length) (hd : a.drop k = b.drop k) (h : a[k - 1]'(by omega) = b[k - 1]'(by omega)) : a.drop (k - 1) = b.drop (k - 1) := by
  have h1 := List.drop_eq_getElem_cons (l := a) (i := k - 1) (by omega)
  have h2 := List.drop_eq_getElem_cons (l := b) (i := k - 1) (by omega)
  rw [h1, h2, show k - 1 + 1 = k from by omega, hd, h]
theorem cmpN_of_eq {a b : List Nat} {m n k : Nat} (ha : Canon a m) (hb : Canon b n) (hk : k = 0) (hd : a.drop k = b.drop k) : cmpN m n = 0 := by
  subst hk
  have : a = b := by simpa using hd
  have : m = n := by rw [← ha.2.2, ← hb.2.2, this]
  simp [cmpN, this]
theorem cmpN_lt (a b : Nat) : cmpN a b < 0 ↔ a < b := by unfold cmpN; split <;> (try split) <;> simp_all
theorem cmpN_gt (a b : Nat) : 0 < cmpN a b ↔ b < a := by unfold cmpN; split <;> (try split) <;> simp_all <;> omega
theorem cmpN_eq (a b : Nat) : cmpN a b = 0 ↔ a = b := by unfold cmpN; split <;> (try split) <;> simp_all <;> omega

/-- After the digits from k on of a division by one digit. -/
def ShortInv (l q : List Nat) (d k r : Nat) : Prop := q.length = l.length ∧ Dig q ∧ r < d ∧ nv (l.drop k) = d * nv (q.drop k) + r
theorem ShortInv.start (l : List Nat) (d : Nat) (hd : 0 < d) : ShortInv l (List.replicate l.length 0) d l.length 0 :=
  ⟨by simp, Dig.zeros _, hd, by simp [nv]⟩
theorem drop_set_pred (q : List Nat) (k x : Nat) (h0 : 0 < k) (hk : k ≤ q.length) : (q.set (k - 1) x).drop (k - 1) = x :: q.drop k := by
  rw [List.drop_eq_getElem_cons (by simp; omega), List.getElem_set_self, show k - 1 + 1 = k from by omega, List.drop_set_of_lt (by omega)]
theorem ShortInv.step {l q : List Nat} {d k r : Nat} (h : ShortInv l q d k r) (h0 : 0 < k) (hk : k ≤ l.length) (hl : Dig l) :
    ShortInv l (q.set (k - 1) ((r * 4294967296 + l[k - 1]) / d)) d (k - 1) ((r * 4294967296 + l[k - 1]) % d) := by
  obtain ⟨h1, h2, h3, h4⟩ := h
  have hlk := hl.get (k - 1) (by omega)
  rw [B_eq] at hlk
  have hx : (r * 4294967296 + l[k - 1]) / d < 4294967296 := by
    rw [Nat.div_lt_iff_lt_mul (by omega)]
    have : (r + 1) * 4294967296 ≤ d * 4294967296 := Nat.mul_le_mul_right _ h3
    rw [Nat.mul_comm 4294967296 d]; omega
  refine ⟨by simpa using h1, h2.set _ _ (by rw [B_eq]; exact hx), Nat.mod_lt _ (by omega), ?_⟩
  rw [drop_set_pred q k _ h0 (by omega), List.drop_eq_getElem_cons (l := l) (i := k - 1) (by omega), show k - 1 + 1 = k from by omega]
  simp only [nv]
  rw [h4]
  have e := Nat.div_add_mod (r * 4294967296 + l[k - 1]) d
  rw [B_eq]
  generalize (r * 4294967296 + l[k - 1]) / d = x at *
  generalize (r * 4294967296 + l[k - 1]) % d = y at *
  generalize nv (q.drop k) = z at *
  have e2 : 4294967296 * (d * z + r) = d * (4294967296 * z) + r * 4294967296 := by rw [Nat.mul_add, ← Nat.mul_assoc, ← Nat.mul_assoc, Nat.mul_comm 4294967296 d, Nat.mul_comm 4294967296 r]
  rw [e2, Nat.mul_add]; omega
theorem ShortInv.done {l q : List Nat} {d r : Nat} (h : ShortInv l q d 0 r) : nv q = nv l / d ∧ r = nv l % d := by
  obtain ⟨h1, h2, h3, h4⟩ := h
  simp only [List.drop_zero] at h4
  rw [h4, Nat.mul_add_div (by omega), Nat.div_eq_of_lt h3, Nat.mul_add_mod, Nat.mod_eq_of_lt h3]
  exact ⟨rfl, rfl⟩

theorem nv_set (o : List Nat) (k d : Nat) (h : k < o.length) : nv (o.set k d) + B ^ k * o[k] = nv o + B ^ k * d := by
  induction o generalizing k with
  | nil => simp at h
  | cons x o ih =>
    match k with
    | 0 => simp [nv]; omega
    | k + 1 =>
      have := ih k (by simpa using h)
      simp only [List.set_cons_succ, nv, List.getElem_cons_succ, Nat.pow_succ]
      have e1 : B ^ k * B * o[k]'(by simpa using h) = B * (B ^ k * o[k]'(by simpa using h)) := by rw [Nat.mul_comm (B ^ k) B, Nat.mul_assoc]
      have e2 : B ^ k * B * d = B * (B ^ k * d) := by rw [Nat.mul_comm (B ^ k) B, Nat.mul_assoc]
      rw [e1, e2, Nat.add_assoc, ← Nat.mul_add, this, Nat.mul_add, Nat.add_assoc]

/-- In a multiplication: i digits of a done, j digits of b in this row, the carry. -/
def MulInv (a b o : List Nat) (i j c : Nat) : Prop := o.length = a.length + b.length ∧ Dig o ∧ c < B ∧ (∀ p (h : p < o.length), i + b.length ≤ p → o[p] = 0) ∧
  nv o + B ^ (i + j) * c = nv (a.take i) * nv b + (a.getD i 0) * B ^ i * nv (b.take j)
theorem MulInv.start (a b : List Nat) : MulInv a b (List.replicate (a.length + b.length) 0) 0 0 0 :=
  ⟨by simp, Dig.zeros _, B_pos, by simp, by simp [nv, nv_zeros]⟩
theorem MulInv.step {a b o : List Nat} {i j c : Nat} (h : MulInv a b o i j c) (hi : i < a.length) (hj : j < b.length) (ha : Dig a) (hb : Dig b) (hij : i + j < o.length) :
    MulInv a b (o.set (i + j) ((c + (a[i] * b[j] + o[i + j])) % 4294967296)) i (j + 1) ((c + (a[i] * b[j] + o[i + j])) / 4294967296) ∧ c + (a[i] * b[j] + o[i + j]) < 18446744073709551616 ∧ a[i] * b[j] + o[i + j] < 18446744073709551616 ∧ a[i] * b[j] < 18446744073709551616 := by
  obtain ⟨h1, h2, h3, h4, h5⟩ := h
  have hai := ha.get i hi
  have hbj := hb.get j hj
  have hoj := h2.get (i + j) hij
  rw [B_eq] at hai hbj hoj h3
  have hm : a[i] * b[j] ≤ 4294967295 * 4294967295 := Nat.mul_le_mul (by omega) (by omega)
  have hs := nv_set o (i + j) ((c + (a[i] * b[j] + o[i + j])) % 4294967296) hij
  have hD : a.getD i 0 = a[i] := by simp [List.getD, hi]
  refine ⟨⟨by simpa using h1, h2.set _ _ (by rw [B_eq]; exact Nat.mod_lt _ (by decide)), by rw [B_eq]; omega, ?_, ?_⟩, by omega, by omega, by omega⟩
  · intro p hp hpp
    rw [List.getElem_set, if_neg (by omega)]
    exact h4 p (by simpa using hp) hpp
  · rw [hD] at h5 ⊢
    rw [nv_take_succ b j hj, show i + (j + 1) = (i + j) + 1 from rfl, Nat.pow_succ]
    have e := Nat.div_add_mod (c + (a[i] * b[j] + o[i + j])) 4294967296
    generalize (c + (a[i] * b[j] + o[i + j])) / 4294967296 = x at *
    generalize (c + (a[i] * b[j] + o[i + j])) % 4294967296 = y at *
    generalize nv (o.set (i + j) y) = no at *
    have e3 : B ^ (i + j) * B * x = B ^ (i + j) * (4294967296 * x) := by rw [B_eq, Nat.mul_assoc]
    have e4 : a[i] * B ^ i * (nv (b.take j) + B ^ j * b[j]) = a[i] * B ^ i * nv (b.take j) + B ^ (i + j) * (a[i] * b[j]) := by
      rw [Nat.mul_add, Nat.pow_add]
      congr 1
      ac_rfl
    rw [e3, e4]
    have e5 : B ^ (i + j) * (4294967296 * x) + B ^ (i + j) * y = B ^ (i + j) * c + (B ^ (i + j) * (a[i] * b[j]) + B ^ (i + j) * o[i + j]) := by
      rw [← Nat.mul_add, e, Nat.mul_add, Nat.mul_add]
    omega
theorem MulInv.row {a b o : List Nat} {i c : Nat} (h : MulInv a b o i b.length c) (hi : i < a.length) : MulInv a b (o.set (i + b.length) c) (i + 1) 0 0 := by
  obtain ⟨h1, h2, h3, h4, h5⟩ := h
  have hs := nv_set o (i + b.length) c (by omega)
  have hz := h4 (i + b.length) (by omega) (by omega)
  rw [hz, Nat.mul_zero, Nat.add_zero] at hs
  have hD : a.getD i 0 = a[i] := by simp [List.getD, hi]
  refine ⟨by simpa using h1, h2.set _ _ h3, B_pos, ?_, ?_⟩
  · intro p hp hpp
    rw [List.getElem_set, if_neg (by omega)]
    exact h4 p (by simpa using hp) (by omega)
  · rw [List.take_zero, show nv [] = 0 from rfl, Nat.mul_zero, Nat.mul_zero, Nat.add_zero, Nat.add_zero, hs, h5, hD, List.take_of_length_le (Nat.le_refl b.length), nv_take_succ a i hi, Nat.add_mul, Nat.mul_comm (B ^ i) a[i]]
theorem MulInv.done {a b o : List Nat} {c : Nat} (h : MulInv a b o a.length 0 c) (hc : c = 0) : nv o = nv a * nv b := by
  obtain ⟨h1, h2, h3, h4, h5⟩ := h
  subst hc
  simpa [nv] using h5
theorem lg_one_iff {n : Nat} (h0 : 0 < n) (h : n < 4294967296) : lg n = 1 := by
  have h1 : lg n ≤ 1 := lg_le.2 (by rw [Nat.pow_one, B_eq]; exact h)
  have := lg_pos h0
  omega
theorem canon_one {l : List Nat} {n : Nat} (h : Canon l n) (h0 : 0 < n) (h1 : n < 4294967296) : l = [n] := by
  have h2 := h.len
  rw [lg_one_iff h0 h1] at h2
  match l, h2 with
  | [d], _ => have := h.2.2; simp [nv] at this; rw [this]
theorem canon_of {n : Nat} (h0 : 0 < n) (h1 : n < 4294967296) : Canon [n] n := ⟨Dig.cons (by rw [B_eq]; exact h1) Dig.nil, by simp [validL]; omega, by simp [nv]⟩
theorem canon_nil_iff {l : List Nat} {n : Nat} (h : Canon l n) : l = [] ↔ n = 0 := by
  constructor
  · rintro rfl; exact h.2.2.symm
  · intro hn; have := h.len; rw [hn] at this; exact List.eq_nil_of_length_eq_zero this
theorem MulInv.step' {a b o : List Nat} {i j c x y z : Nat} (h : MulInv a b o i j c) (hi : i < a.length) (hj : j < b.length) (ha : Dig a) (hb : Dig b) (hij : i + j < o.length) (hx : a[i] = x) (hy : b[j] = y) (hz : o[i + j] = z) :
    MulInv a b (o.set (i + j) ((c + (x * y + z)) % 4294967296)) i (j + 1) ((c + (x * y + z)) / 4294967296) ∧ c + (x * y + z) < 18446744073709551616 := by
  subst hx; subst hy; subst hz
  exact ⟨(h.step hi hj ha hb hij).1, (h.step hi hj ha hb hij).2.1⟩
/-- After i rounds of the reference's addition. -/
def RAddInv (a b o : List Nat) (i c : Nat) : Prop := o.length = i ∧ Dig o ∧ c ≤ 1 ∧ nv o + B ^ i * c = nv (a.take i) + nv (b.take i)
theorem RAddInv.start (a b : List Nat) : RAddInv a b [] 0 0 := ⟨rfl, Dig.nil, by omega, by simp [nv]⟩
theorem nv_take_getD (a : List Nat) (i : Nat) : nv (a.take (i + 1)) = nv (a.take i) + B ^ i * a.getD i 0 := by
  by_cases h : i < a.length
  · rw [nv_take_succ a i h]; simp [List.getD, h]
  · rw [nv_take_ge a i (by omega)]; simp [List.getD, h]
theorem Dig.getD {a : List Nat} (ha : Dig a) (i : Nat) : a.getD i 0 < B := by
  by_cases h : i < a.length
  · simpa [List.getD, h] using ha.get i h
  · simpa [List.getD, h] using B_pos
theorem RAddInv.step {a b o : List Nat} {i c : Nat} (h : RAddInv a b o i c) (ha : Dig a) (hb : Dig b) :
    RAddInv a b (o ++ [(a.getD i 0 + b.getD i 0 + c) % 4294967296]) (i + 1) ((a.getD i 0 + b.getD i 0 + c) / 4294967296) := by
  obtain ⟨h1, h2, h3, h4⟩ := h
  have hx := ha.getD i
  have hy := hb.getD i
  have ea := nv_take_getD a i
  have eb := nv_take_getD b i
  unfold RAddInv
  rw [ea, eb]
  clear ea eb
  generalize a.getD i 0 = x at *
  generalize b.getD i 0 = y at *
  rw [B_eq] at hx hy
  refine ⟨by simp [h1], h2.append (Dig.cons (by rw [B_eq]; exact Nat.mod_lt _ (by decide)) Dig.nil), by omega, ?_⟩
  rw [nv_snoc, h1, Nat.pow_succ, Nat.mul_assoc]
  have e : (x + y + c) % 4294967296 + B * ((x + y + c) / 4294967296) = x + y + c := by rw [B_eq]; omega
  have e2 : B ^ i * ((x + y + c) % 4294967296) + B ^ i * (B * ((x + y + c) / 4294967296)) = B ^ i * x + B ^ i * y + B ^ i * c := by rw [← Nat.mul_add, e, Nat.mul_add, Nat.mul_add]
  omega
theorem RAddInv.done {a b o : List Nat} {c m : Nat} (h : RAddInv a b o (m + 1) c) (ha : Dig a) (hb : Dig b) (hal : a.length ≤ m) (hbl : b.length ≤ m) : nv o = nv a + nv b := by
  obtain ⟨h1, h2, h3, h4⟩ := h
  rw [List.take_of_length_le (by omega), List.take_of_length_le (by omega)] at h4
  have ha1 := Nat.lt_of_lt_of_le (nv_lt ha) (Nat.pow_le_pow_right B_pos hal)
  have hb1 := Nat.lt_of_lt_of_le (nv_lt hb) (Nat.pow_le_pow_right B_pos hbl)
  rw [Nat.pow_succ] at h4
  have hc : c = 0 := by
    rcases Nat.eq_zero_or_pos c with h | h
    · exact h
    · exfalso
      have h5 : B ^ m * B ≤ B ^ m * B * c := Nat.le_mul_of_pos_right _ h
      generalize B ^ m = p at *
      rw [B_eq] at h5 h4
      omega
  subst hc
  simpa using h4
end Go.Lim
