/- Parts of a proof: each theorem states what it proves, and its conditions. -/
import Derived.Test.YtnnpfhoigmegcaaGreatFlA
import Derived.WalkKit
import Derived.WalkSpells
import Derived.WalkLawsBesides
import Derived.Deep.DeepCutAuto
import Derived.Laws.CopyOwn
import Derived.Test.YtnnpfhoigmegcaaGreatRows
namespace Go.Lim
theorem B_ex : ∃ n : Nat, n = 4294967296 := ⟨_, rfl⟩
noncomputable def B : Nat := Classical.choose B_ex
theorem B_eq : B = 4294967296 := Classical.choose_spec B_ex
theorem B_pos : 0 < B := by rw [B_eq]; decide
noncomputable def nv : List Nat -> Nat
  | [] => 0
  | d :: l => d + B * nv l
def Dig (l : List Nat) : Prop := ∀ d ∈ l, d < B
def validL (l : List Nat) : Bool := !(l.getLast? == some 0)
def vl (l : List Nat) : List Nat := if validL l then l else []
noncomputable def val (l : List Nat) : Nat := nv (vl l)
def Canon (l : List Nat) (n : Nat) : Prop := Dig l /\ validL l = true /\ nv l = n
theorem nv_append (a b : List Nat) : nv (a ++ b) = nv a + B ^ a.length * nv b := by
  induction a with
  | nil => simp [nv]
  | cons d a ih => simp only [List.cons_append, nv, ih, List.length_cons, Nat.pow_succ, Nat.mul_add]; rw [Nat.mul_comm (B ^ a.length) B, Nat.mul_assoc, Nat.add_assoc]
theorem nv_snoc (a : List Nat) (d : Nat) : nv (a ++ [d]) = nv a + B ^ a.length * d := by rw [nv_append]; simp [nv]
theorem nv_zeros (n : Nat) : nv (List.replicate n 0) = 0 := by
  induction n with
  | zero => rfl
  | succ n ih => simp [List.replicate_succ, nv, ih]
theorem Dig.nil : Dig [] := by intro d h; simp at h
theorem Dig.cons {d : Nat} {l : List Nat} (hd : d < B) (h : Dig l) : Dig (d :: l) := by
  intro x hx; rcases List.mem_cons.1 hx with rfl | hx
  · exact hd
  · exact h x hx
theorem Dig.append {a b : List Nat} (ha : Dig a) (hb : Dig b) : Dig (a ++ b) := by
  intro x hx; rcases List.mem_append.1 hx with h | h
  · exact ha x h
  · exact hb x h
theorem Dig.take {a : List Nat} (ha : Dig a) (n : Nat) : Dig (a.take n) := fun x hx => ha x (List.mem_of_mem_take hx)
theorem Dig.drop {a : List Nat} (ha : Dig a) (n : Nat) : Dig (a.drop n) := fun x hx => ha x (List.mem_of_mem_drop hx)
theorem Dig.get {a : List Nat} (ha : Dig a) (i : Nat) (h : i < a.length) : a[i] < B := ha _ (List.getElem_mem h)
theorem Dig.set {a : List Nat} (ha : Dig a) (i d : Nat) (hd : d < B) : Dig (a.set i d) := by
  intro x hx; rcases List.mem_or_eq_of_mem_set hx with h | rfl
  · exact ha x h
  · exact hd
theorem Dig.zeros (n : Nat) : Dig (List.replicate n 0) := by intro x hx; rw [List.eq_of_mem_replicate hx]; exact B_pos
theorem nv_lt {l : List Nat} (h : Dig l) : nv l < B ^ l.length := by
  induction l with
  | nil => simp [nv]
  | cons d l ih =>
    have h1 := ih (fun x hx => h x (List.mem_cons_of_mem _ hx))
    have h2 := h d (List.mem_cons_self ..)
    simp only [nv, List.length_cons, Nat.pow_succ]
    have : B * nv l + B <= B ^ l.length * B := by rw [<- Nat.mul_succ, Nat.mul_comm]; exact Nat.mul_le_mul_right _ h1
    omega
theorem validL_snoc (l : List Nat) (d : Nat) : validL (l ++ [d]) = (d != 0) := by simp [validL, bne]
theorem validL_last {l : List Nat} (h : 0 < l.length) : validL l = (l[l.length - 1] != 0) := by
  unfold validL
  rw [List.getLast?_eq_getElem?, List.getElem?_eq_getElem (by omega)]
  simp [bne]
theorem vl_valid (l : List Nat) : validL (vl l) = true := by
  unfold vl; split
  · assumption
  · rfl
theorem vl_dig {l : List Nat} (h : Dig l) : Dig (vl l) := by
  unfold vl; split
  · exact h
  · exact Dig.nil
theorem vl_len (l : List Nat) : (vl l).length <= l.length := by unfold vl; split <;> simp
theorem vl_canon {l : List Nat} (h : Dig l) : Canon (vl l) (val l) := ⟨vl_dig h, vl_valid l, rfl⟩
theorem Canon.vl {l : List Nat} {n : Nat} (h : Canon l n) : vl l = l := by unfold Lim.vl; rw [h.2.1]; rfl
theorem Canon.val {l : List Nat} {n : Nat} (h : Canon l n) : val l = n := by unfold Lim.val; rw [h.vl]; exact h.2.2
theorem Canon.nil : Canon [] 0 := ⟨Dig.nil, rfl, rfl⟩
theorem snocInd {P : List Nat -> Prop} (h0 : P []) (hs : ∀ l d, P l -> P (l ++ [d])) (l : List Nat) : P l := by
  have : ∀ m : List Nat, P m.reverse := by
    intro m
    induction m with
    | nil => exact h0
    | cons d m ih => rw [List.reverse_cons]; exact hs _ _ ih
  simpa using this l.reverse
def Cut (l : List Nat) (k : Nat) : Prop := k <= l.length /\ nv (l.take k) = nv l
theorem Cut.all (l : List Nat) : Cut l l.length := ⟨Nat.le_refl _, by rw [List.take_length]⟩
theorem Cut.less {l : List Nat} {k : Nat} (h : Cut l k) (hk : 0 < k) (h0 : l[k - 1]'(by have := h.1; omega) = 0) : Cut l (k - 1) := by
  refine ⟨by have := h.1; omega, ?_⟩
  have h1 := h.1
  have e : l.take k = l.take (k - 1) ++ [l[k - 1]'(by omega)] := by
    conv => lhs; rw [show k = (k - 1) + 1 from by omega]
    exact List.take_succ_eq_append_getElem (by omega)
  rw [<- h.2, e, nv_snoc, h0]; simp
theorem Cut.canon {l : List Nat} {k : Nat} (h : Cut l k) (hd : Dig l) (hv : k = 0 \/ ∃ h' : k - 1 < l.length, l[k - 1] ≠ 0) : Canon (l.take k) (nv l) := by
  refine ⟨hd.take k, ?_, h.2⟩
  have h1 := h.1
  rcases hv with rfl | ⟨h', h2⟩
  · rfl
  · by_cases hk : k = 0
    · subst hk; rfl
    rw [validL_last (by simp; omega)]
    have : (l.take k).length = k := by simp; omega
    simp [this, h2]
theorem Canon.unique {a b : List Nat} {n : Nat} (ha : Canon a n) (hb : Canon b n) : a = b := by
  induction a generalizing b n with
  | nil =>
    obtain ⟨h1, h2, h3⟩ := hb
    have hn : n = 0 := ha.2.2.symm
    subst hn
    clear ha
    induction b using snocInd with
    | h0 => rfl
    | hs l d ih =>
      rw [nv_snoc] at h3
      rw [validL_snoc] at h2
      have : 0 < B ^ l.length := Nat.pow_pos B_pos
      have hd : 0 < d := by simp at h2; omega
      have := Nat.mul_pos this hd
      omega
  | cons d a ih =>
    have cv : ∀ {d : Nat} {l : List Nat}, validL (d :: l) = true -> validL l = true := by
      intro d l h
      cases l with
      | nil => rfl
      | cons x l => simpa [validL] using h
    obtain ⟨h1, h2, h3⟩ := ha
    obtain ⟨g1, g2, g3⟩ := hb
    cases b with
    | nil =>
      have hn : n = 0 := g3.symm
      have : Canon (d :: a) 0 := ⟨h1, h2, by rw [h3, hn]⟩
      clear ih
      exfalso
      have key : ∀ l : List Nat, Canon l 0 -> l = [] := by
        intro l
        induction l using snocInd with
        | h0 => intro _; rfl
        | hs l d _ =>
          rintro ⟨_, k2, k3⟩
          rw [nv_snoc] at k3
          rw [validL_snoc] at k2
          have p1 : 0 < B ^ l.length := Nat.pow_pos B_pos
          have hd : 0 < d := by simp at k2; omega
          have := Nat.mul_pos p1 hd
          omega
      simpa using key _ this
    | cons c b =>
      have hd := h1 d (List.mem_cons_self ..)
      have hc := g1 c (List.mem_cons_self ..)
      simp only [nv] at h3 g3
      have e : d + B * nv a = c + B * nv b := by omega
      have hdc : d = c := by
        have := congrArg (· % B) e
        simpa [Nat.add_mul_mod_self_left, Nat.mod_eq_of_lt hd, Nat.mod_eq_of_lt hc] using this
      subst hdc
      have : B * nv a = B * nv b := by omega
      have hab : nv a = nv b := Nat.eq_of_mul_eq_mul_left B_pos this
      rw [ih (n := nv a) (b := b) ⟨fun x hx => h1 x (List.mem_cons_of_mem _ hx), cv h2, rfl⟩ ⟨fun x hx => g1 x (List.mem_cons_of_mem _ hx), cv g2, hab.symm⟩]
def AddInv (a b o : List Nat) (i c : Nat) : Prop := o.length = a.length + 1 /\ Dig o /\ c <= 1 /\ nv (o.take i) + B ^ i * c = nv (a.take i) + nv (b.take i)
theorem take_set_succ (o : List Nat) (i d : Nat) (h : i < o.length) : (o.set i d).take (i + 1) = o.take i ++ [d] := by
  rw [List.take_succ_eq_append_getElem (by simpa using h), List.take_set, List.getElem_set_self]
  congr 1
  rw [List.set_eq_of_length_le (by simp; omega)]
theorem nv_take_succ (a : List Nat) (i : Nat) (h : i < a.length) : nv (a.take (i + 1)) = nv (a.take i) + B ^ i * a[i] := by
  rw [List.take_succ_eq_append_getElem h, nv_snoc]; congr 3; simp; omega
theorem nv_take_ge (a : List Nat) (i : Nat) (h : a.length <= i) : nv (a.take (i + 1)) = nv (a.take i) := by
  rw [List.take_of_length_le (by omega), List.take_of_length_le h]
theorem AddInv.start (a b : List Nat) : AddInv a b (List.replicate (a.length + 1) 0) 0 0 := ⟨by simp, Dig.zeros _, by omega, by simp [nv]⟩
theorem AddInv.step {a b o : List Nat} {i c y : Nat} (h : AddInv a b o i c) (hi : i < a.length) (hy : (∃ h : i < b.length, b[i] = y) \/ (b.length <= i /\ y = 0)) (ha : Dig a) (hb : Dig b) :
    AddInv a b (o.set i ((a[i] + y + c) % 4294967296)) (i + 1) ((a[i] + y + c) / 4294967296) := by
  obtain ⟨h1, h2, h3, h4⟩ := h
  have hai := ha.get i hi
  have hyB : y < B := by
    rcases hy with ⟨h, rfl⟩ | ⟨_, rfl⟩
    · exact hb.get i h
    · exact B_pos
  rw [B_eq] at hai hyB
  refine ⟨by simpa using h1, h2.set _ _ (by rw [B_eq]; exact Nat.mod_lt _ (by decide)), by omega, ?_⟩
  have hb2 : nv (b.take (i + 1)) = nv (b.take i) + B ^ i * y := by
    rcases hy with ⟨h, rfl⟩ | ⟨h, rfl⟩
    · exact nv_take_succ b i h
    · rw [nv_take_ge b i h]; simp
  rw [take_set_succ o i _ (by omega), nv_snoc, nv_take_succ a i hi, hb2, List.length_take, Nat.min_eq_left (by omega), Nat.pow_succ, Nat.mul_assoc]
  have e : (a[i] + y + c) % 4294967296 + B * ((a[i] + y + c) / 4294967296) = a[i] + y + c := by rw [B_eq]; omega
  have e2 : B ^ i * ((a[i] + y + c) % 4294967296) + B ^ i * (B * ((a[i] + y + c) / 4294967296)) = B ^ i * a[i] + B ^ i * y + B ^ i * c := by rw [<- Nat.mul_add, e, Nat.mul_add, Nat.mul_add]
  omega
theorem AddInv.done {a b o : List Nat} {c : Nat} (h : AddInv a b o a.length c) (hab : b.length <= a.length) : Dig (o.set a.length c) /\ nv (o.set a.length c) = nv a + nv b /\ (o.set a.length c).length = a.length + 1 := by
  obtain ⟨h1, h2, h3, h4⟩ := h
  refine ⟨h2.set _ _ (by rw [B_eq]; omega), ?_, by simpa using h1⟩
  have e : o.set a.length c = (o.set a.length c).take (a.length + 1) := by rw [List.take_of_length_le (by simp; omega)]
  rw [e, take_set_succ o _ _ (by omega), nv_snoc, List.length_take, Nat.min_eq_left (by omega), h4, List.take_of_length_le (Nat.le_refl _), List.take_of_length_le hab]
def lg (n : Nat) : Nat := if n = 0 then 0 else Nat.log2 n / 32 + 1
theorem B_two (m : Nat) : B ^ m = 2 ^ (32 * m) := by rw [Nat.pow_mul, B_eq]
theorem lg_le {n m : Nat} : lg n <= m ↔ n < B ^ m := by
  unfold lg
  by_cases h : n = 0
  · subst h; simp [Nat.pow_pos B_pos]
  · rw [if_neg h, B_two, <- Nat.log2_lt h]; omega
theorem Canon.len {l : List Nat} {n : Nat} (h : Canon l n) : l.length = lg n := by
  have h1 : lg n <= l.length := lg_le.2 (by rw [<- h.2.2]; exact nv_lt h.1)
  obtain ⟨hd, hv, rfl⟩ := h
  induction l using snocInd with
  | h0 => rfl
  | hs l d _ =>
    rw [validL_snoc] at hv
    have hd : 0 < d := by simp at hv; omega
    have : ¬ lg (nv (l ++ [d])) <= l.length := by
      rw [lg_le, nv_snoc]
      have := Nat.mul_le_mul_left (B ^ l.length) hd
      omega
    simp at h1 |-
    omega
theorem lg_zero : lg 0 = 0 := rfl
theorem lg_mono {a b : Nat} (h : a <= b) : lg a <= lg b := lg_le.2 (Nat.lt_of_le_of_lt h (lg_le.1 (Nat.le_refl _)))
theorem lg_add (a b : Nat) : lg (a + b) <= max (lg a) (lg b) + 1 := by
  rw [lg_le]
  have h1 := (lg_le (n := a) (m := max (lg a) (lg b))).1 (Nat.le_max_left _ _)
  have h2 := (lg_le (n := b) (m := max (lg a) (lg b))).1 (Nat.le_max_right _ _)
  rw [Nat.pow_succ]
  have : 0 < B ^ max (lg a) (lg b) := Nat.pow_pos B_pos
  have := B_eq
  generalize B ^ max (lg a) (lg b) = p at *
  rw [B_eq]; omega
theorem lg_mul (a b : Nat) : lg (a * b) <= lg a + lg b := by
  rw [lg_le, Nat.pow_add]
  exact Nat.mul_lt_mul'' (lg_le.1 (Nat.le_refl _)) (lg_le.1 (Nat.le_refl _))
theorem lg_pos {a : Nat} (h : 0 < a) : 0 < lg a := by unfold lg; rw [if_neg (by omega)]; omega
theorem val_lg (l : List Nat) (h : Dig l) : lg (val l) <= l.length := by
  have := (vl_canon h).len; have := vl_len l; omega
def cmpN (a b : Nat) : Int := if a < b then -1 else if b < a then 1 else 0
theorem cmpN_of_len_lt {a b : List Nat} {m n : Nat} (ha : Canon a m) (hb : Canon b n) (h : a.length < b.length) : cmpN m n = -1 := by
  have : m < n := by
    rcases Nat.lt_or_ge m n with h1 | h1
    · exact h1
    · have := lg_mono h1; rw [<- ha.len, <- hb.len] at this; omega
  simp [cmpN, this]
theorem cmpN_of_len_gt {a b : List Nat} {m n : Nat} (ha : Canon a m) (hb : Canon b n) (h : b.length < a.length) : cmpN m n = 1 := by
  have : n < m := by
    rcases Nat.lt_or_ge n m with h1 | h1
    · exact h1
    · have := lg_mono h1; rw [<- ha.len, <- hb.len] at this; omega
  simp [cmpN, this, Nat.lt_asymm this]
theorem nv_split (a : List Nat) (k : Nat) (hk : k <= a.length) : nv a = nv (a.take k) + B ^ k * nv (a.drop k) := by
  have := nv_append (a.take k) (a.drop k)
  rw [List.take_append_drop, List.length_take, Nat.min_eq_left hk] at this
  exact this
theorem lt_of_digit {a b : List Nat} (ha : Dig a) {k : Nat} (hl : a.length = b.length) (h0 : 0 < k) (hk : k <= a.length) (hd : a.drop k = b.drop k) (h : a[k - 1]'(by omega) < b[k - 1]'(by omega)) : nv a < nv b := by
  rw [nv_split a k hk, nv_split b k (by omega), hd]
  have ha1 := nv_take_succ a (k - 1) (by omega)
  have hb1 := nv_take_succ b (k - 1) (by omega)
  rw [show k - 1 + 1 = k from by omega] at ha1 hb1
  have h1 := nv_lt (ha.take (k - 1))
  rw [List.length_take, Nat.min_eq_left (by omega)] at h1
  have h2 : B ^ (k - 1) * a[k - 1]'(by omega) + B ^ (k - 1) <= B ^ (k - 1) * b[k - 1]'(by omega) := by rw [<- Nat.mul_succ]; exact Nat.mul_le_mul_left _ h
  omega
theorem cmpN_of_lt {a b : List Nat} {m n k : Nat} (ha : Canon a m) (hb : Canon b n) (hl : a.length = b.length) (h0 : 0 < k) (hk : k <= a.length) (hd : a.drop k = b.drop k) (h : a[k - 1]'(by omega) < b[k - 1]'(by omega)) : cmpN m n = -1 := by
  have := lt_of_digit ha.1 hl h0 hk hd h
  rw [ha.2.2, hb.2.2] at this
  simp [cmpN, this]
theorem cmpN_of_gt {a b : List Nat} {m n k : Nat} (ha : Canon a m) (hb : Canon b n) (hl : a.length = b.length) (h0 : 0 < k) (hk : k <= a.length) (hd : a.drop k = b.drop k) (h : b[k - 1]'(by omega) < a[k - 1]'(by omega)) : cmpN m n = 1 := by
  have := lt_of_digit hb.1 hl.symm h0 (by omega) hd.symm h
  rw [ha.2.2, hb.2.2] at this
  simp [cmpN, this, Nat.lt_asymm this]
theorem drop_eq_pred {a b : List Nat} {k : Nat} (hl : a.length = b.length) (h0 : 0 < k) (hk : k <= a.length) (hd : a.drop k = b.drop k) (h : a[k - 1]'(by omega) = b[k - 1]'(by omega)) : a.drop (k - 1) = b.drop (k - 1) := by
  have h1 := List.drop_eq_getElem_cons (l := a) (i := k - 1) (by omega)
  have h2 := List.drop_eq_getElem_cons (l := b) (i := k - 1) (by omega)
  rw [h1, h2, show k - 1 + 1 = k from by omega, hd, h]
theorem cmpN_of_eq {a b : List Nat} {m n k : Nat} (ha : Canon a m) (hb : Canon b n) (hk : k = 0) (hd : a.drop k = b.drop k) : cmpN m n = 0 := by
  subst hk
  have : a = b := by simpa using hd
  have : m = n := by rw [<- ha.2.2, <- hb.2.2, this]
  simp [cmpN, this]
theorem cmpN_lt (a b : Nat) : cmpN a b < 0 ↔ a < b := by unfold cmpN; split <;> (try split) <;> simp_all
theorem cmpN_eq (a b : Nat) : cmpN a b = 0 ↔ a = b := by unfold cmpN; split <;> (try split) <;> simp_all <;> omega
def ShortInv (l q : List Nat) (d k r : Nat) : Prop := q.length = l.length /\ Dig q /\ r < d /\ nv (l.drop k) = d * nv (q.drop k) + r
theorem ShortInv.start (l : List Nat) (d : Nat) (hd : 0 < d) : ShortInv l (List.replicate l.length 0) d l.length 0 :=
  ⟨by simp, Dig.zeros _, hd, by simp [nv]⟩
theorem drop_set_pred (q : List Nat) (k x : Nat) (h0 : 0 < k) (hk : k <= q.length) : (q.set (k - 1) x).drop (k - 1) = x :: q.drop k := by
  rw [List.drop_eq_getElem_cons (by simp; omega), List.getElem_set_self, show k - 1 + 1 = k from by omega, List.drop_set_of_lt (by omega)]
theorem ShortInv.step {l q : List Nat} {d k r : Nat} (h : ShortInv l q d k r) (h0 : 0 < k) (hk : k <= l.length) (hl : Dig l) :
    ShortInv l (q.set (k - 1) ((r * 4294967296 + l[k - 1]) / d)) d (k - 1) ((r * 4294967296 + l[k - 1]) % d) := by
  obtain ⟨h1, h2, h3, h4⟩ := h
  have hlk := hl.get (k - 1) (by omega)
  rw [B_eq] at hlk
  have hx : (r * 4294967296 + l[k - 1]) / d < 4294967296 := by
    rw [Nat.div_lt_iff_lt_mul (by omega)]
    have : (r + 1) * 4294967296 <= d * 4294967296 := Nat.mul_le_mul_right _ h3
    rw [Nat.mul_comm 4294967296 d]; omega
  refine ⟨by simpa using h1, h2.set _ _ (by rw [B_eq]; exact hx), Nat.mod_lt _ (by omega), ?_⟩
  rw [drop_set_pred q k _ h0 (by omega), List.drop_eq_getElem_cons (l := l) (i := k - 1) (by omega), show k - 1 + 1 = k from by omega]
  simp only [nv]
  rw [h4]
  have e := Nat.div_add_mod (r * 4294967296 + l[k - 1]) d
  rw [B_eq]
  generalize (r * 4294967296 + l[k - 1]) / d = x at *
  generalize (r * 4294967296 + l[k - 1]) % d = y at *
  generalize nv (q.drop k) = z at *
  have e2 : 4294967296 * (d * z + r) = d * (4294967296 * z) + r * 4294967296 := by rw [Nat.mul_add, <- Nat.mul_assoc, <- Nat.mul_assoc, Nat.mul_comm 4294967296 d, Nat.mul_comm 4294967296 r]
  rw [e2, Nat.mul_add]; omega
theorem ShortInv.done {l q : List Nat} {d r : Nat} (h : ShortInv l q d 0 r) : nv q = nv l / d /\ r = nv l % d := by
  obtain ⟨h1, h2, h3, h4⟩ := h
  simp only [List.drop_zero] at h4
  rw [h4, Nat.mul_add_div (by omega), Nat.div_eq_of_lt h3, Nat.mul_add_mod, Nat.mod_eq_of_lt h3]
  exact ⟨rfl, rfl⟩
theorem nv_set (o : List Nat) (k d : Nat) (h : k < o.length) : nv (o.set k d) + B ^ k * o[k] = nv o + B ^ k * d := by
  induction o generalizing k with
  | nil => simp at h
  | cons x o ih =>
    match k with
    | 0 => simp [nv]; omega
    | k + 1 =>
      have := ih k (by simpa using h)
      simp only [List.set_cons_succ, nv, List.getElem_cons_succ, Nat.pow_succ]
      have e1 : B ^ k * B * o[k]'(by simpa using h) = B * (B ^ k * o[k]'(by simpa using h)) := by rw [Nat.mul_comm (B ^ k) B, Nat.mul_assoc]
      have e2 : B ^ k * B * d = B * (B ^ k * d) := by rw [Nat.mul_comm (B ^ k) B, Nat.mul_assoc]
      rw [e1, e2, Nat.add_assoc, <- Nat.mul_add, this, Nat.mul_add, Nat.add_assoc]
def MulInv (a b o : List Nat) (i j c : Nat) : Prop := o.length = a.length + b.length /\ Dig o /\ c < B /\ (∀ p (h : p < o.length), i + b.length <= p -> o[p] = 0) /\
  nv o + B ^ (i + j) * c = nv (a.take i) * nv b + (a.getD i 0) * B ^ i * nv (b.take j)
theorem MulInv.start (a b : List Nat) : MulInv a b (List.replicate (a.length + b.length) 0) 0 0 0 :=
  ⟨by simp, Dig.zeros _, B_pos, by simp, by simp [nv, nv_zeros]⟩
theorem MulInv.step {a b o : List Nat} {i j c : Nat} (h : MulInv a b o i j c) (hi : i < a.length) (hj : j < b.length) (ha : Dig a) (hb : Dig b) (hij : i + j < o.length) :
    MulInv a b (o.set (i + j) ((c + (a[i] * b[j] + o[i + j])) % 4294967296)) i (j + 1) ((c + (a[i] * b[j] + o[i + j])) / 4294967296) /\ c + (a[i] * b[j] + o[i + j]) < 18446744073709551616 /\ a[i] * b[j] + o[i + j] < 18446744073709551616 /\ a[i] * b[j] < 18446744073709551616 := by
  obtain ⟨h1, h2, h3, h4, h5⟩ := h
  have hai := ha.get i hi
  have hbj := hb.get j hj
  have hoj := h2.get (i + j) hij
  rw [B_eq] at hai hbj hoj h3
  have hm : a[i] * b[j] <= 4294967295 * 4294967295 := Nat.mul_le_mul (by omega) (by omega)
  have hs := nv_set o (i + j) ((c + (a[i] * b[j] + o[i + j])) % 4294967296) hij
  have hD : a.getD i 0 = a[i] := by simp [List.getD, hi]
  refine ⟨⟨by simpa using h1, h2.set _ _ (by rw [B_eq]; exact Nat.mod_lt _ (by decide)), by rw [B_eq]; omega, ?_, ?_⟩, by omega, by omega, by omega⟩
  · intro p hp hpp
    rw [List.getElem_set, if_neg (by omega)]
    exact h4 p (by simpa using hp) hpp
  · rw [hD] at h5 |-
    rw [nv_take_succ b j hj, show i + (j + 1) = (i + j) + 1 from rfl, Nat.pow_succ]
    have e := Nat.div_add_mod (c + (a[i] * b[j] + o[i + j])) 4294967296
    generalize (c + (a[i] * b[j] + o[i + j])) / 4294967296 = x at *
    generalize (c + (a[i] * b[j] + o[i + j])) % 4294967296 = y at *
    generalize nv (o.set (i + j) y) = no at *
    have e3 : B ^ (i + j) * B * x = B ^ (i + j) * (4294967296 * x) := by rw [B_eq, Nat.mul_assoc]
    have e4 : a[i] * B ^ i * (nv (b.take j) + B ^ j * b[j]) = a[i] * B ^ i * nv (b.take j) + B ^ (i + j) * (a[i] * b[j]) := by
      rw [Nat.mul_add, Nat.pow_add]
      congr 1
      ac_rfl
    rw [e3, e4]
    have e5 : B ^ (i + j) * (4294967296 * x) + B ^ (i + j) * y = B ^ (i + j) * c + (B ^ (i + j) * (a[i] * b[j]) + B ^ (i + j) * o[i + j]) := by
      rw [<- Nat.mul_add, e, Nat.mul_add, Nat.mul_add]
    omega
theorem MulInv.row {a b o : List Nat} {i c : Nat} (h : MulInv a b o i b.length c) (hi : i < a.length) : MulInv a b (o.set (i + b.length) c) (i + 1) 0 0 := by
  obtain ⟨h1, h2, h3, h4, h5⟩ := h
  have hs := nv_set o (i + b.length) c (by omega)
  have hz := h4 (i + b.length) (by omega) (by omega)
  rw [hz, Nat.mul_zero, Nat.add_zero] at hs
  have hD : a.getD i 0 = a[i] := by simp [List.getD, hi]
  refine ⟨by simpa using h1, h2.set _ _ h3, B_pos, ?_, ?_⟩
  · intro p hp hpp
    rw [List.getElem_set, if_neg (by omega)]
    exact h4 p (by simpa using hp) (by omega)
  · rw [List.take_zero, show nv [] = 0 from rfl, Nat.mul_zero, Nat.mul_zero, Nat.add_zero, Nat.add_zero, hs, h5, hD, List.take_of_length_le (Nat.le_refl b.length), nv_take_succ a i hi, Nat.add_mul, Nat.mul_comm (B ^ i) a[i]]
theorem MulInv.done {a b o : List Nat} {c : Nat} (h : MulInv a b o a.length 0 c) (hc : c = 0) : nv o = nv a * nv b := by
  obtain ⟨h1, h2, h3, h4, h5⟩ := h
  subst hc
  simpa [nv] using h5
theorem lg_one_iff {n : Nat} (h0 : 0 < n) (h : n < 4294967296) : lg n = 1 := by
  have h1 : lg n <= 1 := lg_le.2 (by rw [Nat.pow_one, B_eq]; exact h)
  have := lg_pos h0
  omega
theorem canon_one {l : List Nat} {n : Nat} (h : Canon l n) (h0 : 0 < n) (h1 : n < 4294967296) : l = [n] := by
  have h2 := h.len
  rw [lg_one_iff h0 h1] at h2
  match l, h2 with
  | [d], _ => have := h.2.2; simp [nv] at this; rw [this]
theorem canon_of {n : Nat} (h0 : 0 < n) (h1 : n < 4294967296) : Canon [n] n := ⟨Dig.cons (by rw [B_eq]; exact h1) Dig.nil, by simp [validL]; omega, by simp [nv]⟩
theorem canon_nil_iff {l : List Nat} {n : Nat} (h : Canon l n) : l = [] ↔ n = 0 := by
  constructor
  · rintro rfl; exact h.2.2.symm
  · intro hn; have := h.len; rw [hn] at this; exact List.eq_nil_of_length_eq_zero this
theorem MulInv.step' {a b o : List Nat} {i j c x y z : Nat} (h : MulInv a b o i j c) (hi : i < a.length) (hj : j < b.length) (ha : Dig a) (hb : Dig b) (hij : i + j < o.length) (hx : a[i] = x) (hy : b[j] = y) (hz : o[i + j] = z) :
    MulInv a b (o.set (i + j) ((c + (x * y + z)) % 4294967296)) i (j + 1) ((c + (x * y + z)) / 4294967296) /\ c + (x * y + z) < 18446744073709551616 := by
  subst hx; subst hy; subst hz
  exact ⟨(h.step hi hj ha hb hij).1, (h.step hi hj ha hb hij).2.1⟩
def RAddInv (a b o : List Nat) (i c : Nat) : Prop := o.length = i /\ Dig o /\ c <= 1 /\ nv o + B ^ i * c = nv (a.take i) + nv (b.take i)
theorem RAddInv.start (a b : List Nat) : RAddInv a b [] 0 0 := ⟨rfl, Dig.nil, by omega, by simp [nv]⟩
theorem nv_take_getD (a : List Nat) (i : Nat) : nv (a.take (i + 1)) = nv (a.take i) + B ^ i * a.getD i 0 := by
  by_cases h : i < a.length
  · rw [nv_take_succ a i h]; simp [List.getD, h]
  · rw [nv_take_ge a i (by omega)]; simp [List.getD, h]
theorem Dig.getD {a : List Nat} (ha : Dig a) (i : Nat) : a.getD i 0 < B := by
  by_cases h : i < a.length
  · simpa [List.getD, h] using ha.get i h
  · simpa [List.getD, h] using B_pos
theorem RAddInv.step {a b o : List Nat} {i c : Nat} (h : RAddInv a b o i c) (ha : Dig a) (hb : Dig b) :
    RAddInv a b (o ++ [(a.getD i 0 + b.getD i 0 + c) % 4294967296]) (i + 1) ((a.getD i 0 + b.getD i 0 + c) / 4294967296) := by
  obtain ⟨h1, h2, h3, h4⟩ := h
  have hx := ha.getD i
  have hy := hb.getD i
  have ea := nv_take_getD a i
  have eb := nv_take_getD b i
  unfold RAddInv
  rw [ea, eb]
  clear ea eb
  generalize a.getD i 0 = x at *
  generalize b.getD i 0 = y at *
  rw [B_eq] at hx hy
  refine ⟨by simp [h1], h2.append (Dig.cons (by rw [B_eq]; exact Nat.mod_lt _ (by decide)) Dig.nil), by omega, ?_⟩
  rw [nv_snoc, h1, Nat.pow_succ, Nat.mul_assoc]
  have e : (x + y + c) % 4294967296 + B * ((x + y + c) / 4294967296) = x + y + c := by rw [B_eq]; omega
  have e2 : B ^ i * ((x + y + c) % 4294967296) + B ^ i * (B * ((x + y + c) / 4294967296)) = B ^ i * x + B ^ i * y + B ^ i * c := by rw [<- Nat.mul_add, e, Nat.mul_add, Nat.mul_add]
  omega
theorem RAddInv.done {a b o : List Nat} {c m : Nat} (h : RAddInv a b o (m + 1) c) (ha : Dig a) (hb : Dig b) (hal : a.length <= m) (hbl : b.length <= m) : nv o = nv a + nv b := by
  obtain ⟨h1, h2, h3, h4⟩ := h
  rw [List.take_of_length_le (by omega), List.take_of_length_le (by omega)] at h4
  have ha1 := Nat.lt_of_lt_of_le (nv_lt ha) (Nat.pow_le_pow_right B_pos hal)
  have hb1 := Nat.lt_of_lt_of_le (nv_lt hb) (Nat.pow_le_pow_right B_pos hbl)
  rw [Nat.pow_succ] at h4
  have hc : c = 0 := by
    rcases Nat.eq_zero_or_pos c with h | h
    · exact h
    · exfalso
      have h5 : B ^ m * B <= B ^ m * B * c := Nat.le_mul_of_pos_right _ h
      generalize B ^ m = p at *
      rw [B_eq] at h5 h4
      omega
  subst hc
  simpa using h4
end Go.Lim
namespace Go.Lim
def ch : Nat -> Nat -> Nat
  | _, 0 => 1
  | 0, _ + 1 => 0
  | n + 1, k + 1 => ch n k + ch n (k + 1)
theorem ch_zero (n : Nat) : ch n 0 = 1 := by cases n <;> rfl
theorem ch_gt : ∀ (n k : Nat), n < k -> ch n k = 0
  | _, 0, h => by omega
  | 0, _ + 1, _ => rfl
  | n + 1, k + 1, h => by rw [ch, ch_gt n k (by omega), ch_gt n (k + 1) (by omega)]
theorem ch_le : ∀ (n k : Nat), ch n k <= 2 ^ n
  | n, 0 => by rw [ch_zero]; exact Nat.one_le_two_pow
  | 0, _ + 1 => by simp [ch]
  | n + 1, k + 1 => by
    have h1 := ch_le n k
    have h2 := ch_le n (k + 1)
    rw [ch, Nat.pow_succ]; omega
theorem ch_lt64 {n k : Nat} (h : n <= 64) : ch n k < B ^ 3 := by
  rw [B_two]
  have := ch_le n k
  have h2 : (2 : Nat) ^ n <= 2 ^ 64 := Nat.pow_le_pow_right (by decide) h
  have h3 : (2 : Nat) ^ 64 < 2 ^ (32 * 3) := Nat.pow_lt_pow_right (by decide) (by decide)
  omega
theorem lg_ch {n k : Nat} (h : n <= 64) : lg (ch n k) <= 3 := lg_le.2 (ch_lt64 h)
def PasInv (r : List Nat) (k i j : Nat) : Prop := r.length = k + 1 /\ ∀ p (_ : p < r.length), r[p] = if j < p then ch (i + 1) p else ch i p
theorem PasInv.start (k : Nat) : PasInv ((List.replicate (k + 1) 0).set 0 1) k 0 k := by
  refine ⟨by simp, fun p h => ?_⟩
  simp at h
  rw [if_neg (by omega), List.getElem_set]
  split
  · subst_vars; rw [ch_zero]
  · cases p with
    | zero => omega
    | succ p => simp [ch]
theorem PasInv.step {r : List Nat} {k i j : Nat} (h : PasInv r k i j) (h0 : 0 < j) (hj : j <= k) {x y : Nat} (hx : r[j]'(by rw [h.1]; omega) = x) (hy : r[j - 1]'(by rw [h.1]; omega) = y) : PasInv (r.set j (x + y)) k i (j - 1) := by
  obtain ⟨h1, h2⟩ := h
  refine ⟨by simpa using h1, fun p hp => ?_⟩
  have e1 := h2 j (by omega)
  have e2 := h2 (j - 1) (by omega)
  rw [if_neg (by omega), hx] at e1
  rw [if_neg (by omega), hy] at e2
  rw [List.getElem_set]
  by_cases hjp : j = p
  · subst hjp
    rw [if_pos rfl, if_pos (by omega), e1, e2]
    obtain ⟨q, rfl⟩ : ∃ q, j = q + 1 := ⟨j - 1, by omega⟩
    rw [ch]; simp [Nat.add_comm]
  · rw [if_neg hjp, h2 p (by simpa using hp)]
    by_cases hpj : j < p
    · rw [if_pos hpj, if_pos (by omega)]
    · rw [if_neg hpj, if_neg (by omega)]
theorem PasInv.next {r : List Nat} {k i : Nat} (h : PasInv r k i 0) : PasInv r k (i + 1) k := by
  refine ⟨h.1, fun p hp => ?_⟩
  rw [h.2 p hp, if_neg (by have := h.1; omega : ¬ k < p)]
  split
  · rfl
  · obtain rfl : p = 0 := by omega
    rw [ch_zero, ch_zero]
theorem PasInv.done {r : List Nat} {k i : Nat} (h : PasInv r k i k) (hk : k < r.length) : r[k] = ch i k := by
  rw [h.2 k hk, if_neg (by omega)]
theorem PasInv.le {r : List Nat} {k i j : Nat} (h : PasInv r k i j) (p : Nat) (hp : p < r.length) (hi : i < 64) : lg r[p] <= 3 := by
  rw [h.2 p hp]; split
  · exact lg_ch (by omega)
  · exact lg_ch (by omega)
end Go.Lim
namespace Go.Lim
theorem upto_succ {p : Nat -> Prop} {i : Nat} (h : ∀ j, j < i -> p j) (hi : p i) : ∀ j, j < i + 1 -> p j := fun j hj => by
  by_cases hji : j < i
  · exact h j hji
  · obtain rfl : j = i := by omega
    exact hi
def meets (a b : List Int) : Bool := a.any fun x => b.any fun y => x == y
end Go.Lim
namespace Go.Lim
abbrev Leaf := List Int × List Int
def sumL (n h : Nat) (L : List Leaf) : Nat := (L.map fun x => ch (n - x.1.length - x.2.length) (h - x.1.length)).sum
end Go.Lim
namespace Go.Lim
def combs : Nat -> Nat -> Int -> List (List Int)
  | _, 0, _ => [[]]
  | 0, _ + 1, _ => []
  | m + 1, h + 1, lo => (combs m h (lo + 1)).map (lo :: ·) ++ combs m (h + 1) (lo + 1)
theorem combs_length : ∀ (m h : Nat) (lo : Int), (combs m h lo).length = ch m h
  | m, 0, lo => by rw [ch_zero]; cases m <;> rfl
  | 0, h + 1, lo => rfl
  | m + 1, h + 1, lo => by rw [combs, ch, List.length_append, List.length_map, combs_length m h, combs_length m (h + 1)]
def up (lo : Int) : Nat -> List Int
  | 0 => []
  | k + 1 => lo :: up (lo + 1) k
theorem combs_zero (m : Nat) (lo : Int) : combs m 0 lo = [[]] := by cases m <;> rfl
theorem combs_mem : ∀ (m h : Nat) (lo : Int) (l : List Int), l ∈ combs m h lo -> l.length = h /\ (∀ x ∈ l, lo <= x /\ x < lo + m) /\ l.Pairwise (· < ·)
  | m, 0, lo, l, hl => by
    rw [combs_zero, List.mem_singleton] at hl; subst hl; simp
  | 0, h + 1, lo, l, hl => by simp [combs] at hl
  | m + 1, h + 1, lo, l, hl => by
    rw [combs, List.mem_append, List.mem_map] at hl
    rcases hl with ⟨r, hr, rfl⟩ | hl
    · obtain ⟨h1, h2, h3⟩ := combs_mem m h (lo + 1) r hr
      refine ⟨by simp [h1], fun x hx => ?_, List.pairwise_cons.2 ⟨fun x hx => ?_, h3⟩⟩
      · rcases List.mem_cons.1 hx with rfl | hx
        · omega
        · have := h2 x hx; omega
      · have := h2 x hx; omega
    · obtain ⟨h1, h2, h3⟩ := combs_mem m (h + 1) (lo + 1) l hl
      exact ⟨h1, fun x hx => by have := h2 x hx; omega, h3⟩
end Go.Lim
namespace Go.Lin
open Go.Lim
noncomputable def rayO (x : Mat) (c : Nat) (s : List Int) : Option (List Rat) := match nullM (s.map fun i => x.getD i.toNat []) c with | [d] => some d | _ => none
noncomputable def raysL (x : Mat) (c : Nat) : List (List Rat) := if c = 1 then [[1]] else (combs x.length (c - 1) 0).filterMap (rayO x c)
def flatN (x : Mat) (c : Nat) (d : List Rat) : Nat := x.countP fun r => decide (dot c (vec d) (vec r) = 0)
def maxL (l : List Nat) : Nat := l.foldl max 0
noncomputable def planeL (x : Mat) (c : Nat) : Nat := if (redP x c).2.length < c then x.length else maxL ((raysL x c).map (flatN x c))
theorem foldmax (l : List Nat) : ∀ a, a <= l.foldl max a /\ (∀ k ∈ l, k <= l.foldl max a) /\ (l.foldl max a = a \/ l.foldl max a ∈ l) := by
  induction l with
  | nil => intro a; simp
  | cons b l ih =>
    intro a
    obtain ⟨h1, h2, h3⟩ := ih (max a b)
    refine ⟨by simp only [List.foldl_cons]; omega, fun k hk => ?_, ?_⟩
    · simp only [List.foldl_cons]
      rcases List.mem_cons.1 hk with rfl | hk
      · omega
      · exact h2 k hk
    · simp only [List.foldl_cons]
      rcases h3 with h3 | h3
      · rw [h3]
        rcases Nat.le_total a b with h | h
        · right; rw [Nat.max_eq_right h]; exact List.mem_cons_self
        · left; exact Nat.max_eq_left h
      · exact Or.inr (List.mem_cons_of_mem _ h3)
theorem le_maxL {l : List Nat} {k : Nat} (h : k ∈ l) : k <= maxL l := (foldmax l 0).2.1 k h
theorem maxL_le {l : List Nat} {m : Nat} (h : ∀ k ∈ l, k <= m) : maxL l <= m := by
  rcases (foldmax l 0).2.2 with e | e
  · unfold maxL; rw [e]; exact Nat.zero_le _
  · exact h _ e
theorem flat_le (x : Mat) (c : Nat) (d : List Rat) : flatN x c d <= x.length := List.countP_le_length
theorem plane_le (x : Mat) (c : Nat) : planeL x c <= x.length := by
  unfold planeL
  split
  · exact Nat.le_refl _
  · exact maxL_le fun k hk => by obtain ⟨d, _, rfl⟩ := List.mem_map.1 hk; exact flat_le x c d
def FullR (x : Mat) (c : Nat) : Prop := ∀ y : Vec, (∀ v ∈ vecs x, dot c y v = 0) -> ∀ j, j < c -> y j = 0
theorem full_of {n c : Nat} {x : Mat} (hs : Shp n c x) (h : ¬ (redP x c).2.length < c) : FullR x c := fun y hy j hj => by
  have h0 : (nullM x c).length = 0 := by rw [nullM_len hs]; omega
  obtain ⟨a, ha⟩ := (null_basis hs).span y (fun v hv => by rw [dot_comm]; exact hy v hv)
  rw [ha j hj, h0]; rfl
theorem vecs_len (x : Mat) : (vecs x).length = x.length := by simp [vecs]
theorem combs_ex : ∀ (m h : Nat) (lo : Int) (l : List Int), l.length = h -> l.Pairwise (· < ·) -> (∀ i ∈ l, lo <= i /\ i < lo + m) -> l ∈ combs m h lo
  | m, 0, lo, l, hl, _, _ => by
    obtain rfl := List.length_eq_zero_iff.1 hl
    rw [combs_zero]; simp
  | 0, h + 1, lo, l, hl, _, hr => by
    cases l with
    | nil => simp at hl
    | cons a l => have := hr a List.mem_cons_self; omega
  | m + 1, h + 1, lo, l, hl, hp, hr => by
    cases l with
    | nil => simp at hl
    | cons a l =>
      rw [List.pairwise_cons] at hp
      simp only [List.length_cons, Nat.add_right_cancel_iff] at hl
      unfold combs
      rw [List.mem_append]
      by_cases ha : a = lo
      · subst ha
        exact Or.inl (List.mem_map.2 ⟨l, combs_ex m h _ l hl hp.2 fun i hi => by
          have := hp.1 i hi
          have := hr i (List.mem_cons_of_mem _ hi)
          omega, rfl⟩)
      · exact Or.inr (combs_ex m (h + 1) _ (a :: l) (by simp [hl]) (List.pairwise_cons.2 hp) fun i hi => by
          have h1 := hr i hi
          have h2 := hr a List.mem_cons_self
          rcases List.mem_cons.1 hi with rfl | hi
          · omega
          · have := hp.1 i hi
            omega)
theorem ray_of {n c : Nat} {x : Mat} (hs : Shp n c x) (hc : 0 < c) {u : Vec} (hu : nz c u) (hv : ∀ y : Vec, (∀ v ∈ onL c u (vecs x), dot c y v = 0) -> ∃ t : Rat, ∀ j, j < c -> y j = t * u j) :
    ∃ d ∈ raysL x c, ∃ t : Rat, t ≠ 0 /\ ∀ j, j < c -> vec d j = t * u j := by
  by_cases h1 : c = 1
  · subst h1
    obtain ⟨j, hj, hne⟩ := hu
    obtain rfl : j = 0 := by omega
    refine ⟨[1], by simp [raysL], (u 0)⁻¹, fun h => hne (by have := Rat.inv_mul_cancel _ hne; rw [h] at this; grind), fun j hj => ?_⟩
    obtain rfl : j = 0 := by omega
    rw [Rat.inv_mul_cancel _ hne]; rfl
  · obtain ⟨r, rfl⟩ : ∃ r, c = r + 1 := ⟨c - 1, by omega⟩
    obtain ⟨I, g1, g2, g3, g4⟩ := sel (vecs x) u hu r [] (dim_full _) (by simp [Ort]) fun y _ h => hv y h
    obtain ⟨J, q1, q2, q3⟩ := asc (n := (vecs x).length) g2 fun i hi => (g3 i hi).1
    have hrow : ∀ i ∈ J, i < x.length := fun i hi => by have := (g3 i ((q3 i).1 hi)).1; rwa [vecs_len] at this
    have hsel : Shp (r : Nat) (r + 1) (J.map fun i => x.getD i []) := ⟨by simp [q1, g1], fun l hl => by
      obtain ⟨i, hi, rfl⟩ := List.mem_map.1 hl
      have := hrow i hi
      rw [List.getD_eq_getElem?_getD, List.getElem?_eq_getElem this]
      exact hs.2 _ (List.getElem_mem _)⟩
    have hpk : vecs (J.map fun i => x.getD i []) = pickV (vecs x) J := by
      unfold vecs pickV
      rw [List.map_map]
      refine List.map_congr_left fun i hi => ?_
      have := hrow i hi
      simp [List.getD_eq_getElem?_getD, this]
    have hou : Ort (r + 1) (pickV (vecs x) J) u := fun v hv => by
      obtain ⟨i, hi, rfl⟩ := List.mem_map.1 hv
      exact (g3 i ((q3 i).1 hi)).2.1
    have hd1 : Dim (r + 1) (pickV (vecs x) J) 1 := dim_one_of hu hou fun y hy => g4 y (by simp [Ort]) fun i hi => hy _ (List.mem_map.2 ⟨i, (q3 i).2 hi, rfl⟩)
    have hnl : (nullM (J.map fun i => x.getD i []) (r + 1)).length = 1 := by
      have := null_dim hsel
      rw [hpk] at this
      exact this.uniq hd1
    obtain ⟨d, hd⟩ := List.length_eq_one_iff.1 hnl
    have hb := null_basis hsel
    rw [hpk, hd] at hb
    have hdm : Ort (r + 1) (pickV (vecs x) J) (vec d) := hb.mem 0 (by simp)
    obtain ⟨t, ht⟩ := g4 (vec d) (by simp [Ort]) fun i hi => hdm _ (List.mem_map.2 ⟨i, (q3 i).2 hi, rfl⟩)
    have ht0 : t ≠ 0 := fun h0 => by
      have := hb.li (fun _ => 1) (fun j hj => by
        show cmb 1 _ _ j = 0
        unfold cmb
        show (0 : Rat) + 1 * ent [d] 0 j = 0
        have e : ent [d] 0 j = vec d j := rfl
        rw [e, ht j hj, h0]; grind) 0 (by simp)
      exact absurd this (by decide)
    refine ⟨d, ?_, t, ht0, ht⟩
    unfold raysL
    rw [if_neg h1]
    refine List.mem_filterMap.2 ⟨J.map Int.ofNat, combs_ex _ _ _ _ (by simp [q1, g1]) ?_ fun i hi => ?_, ?_⟩
    · rw [List.pairwise_map]; exact q2.imp fun h => by simpa using h
    · obtain ⟨k, hk, rfl⟩ := List.mem_map.1 hi
      have := hrow k hk
      constructor
      · exact Int.natCast_nonneg _
      · show ((k : Nat) : Int) < 0 + (x.length : Int); omega
    · unfold rayO
      rw [List.map_map]
      have : (List.map ((fun i => x.getD i.toNat []) ∘ Int.ofNat) J) = J.map fun i => x.getD i [] := List.map_congr_left fun i _ => rfl
      rw [this, hd]
theorem ray_flat {n c : Nat} {x : Mat} (hs : Shp n c x) (hc : 0 < c) (hf : FullR x c) (u : Vec) (hu : nz c u) : ∃ d ∈ raysL x c, (x.countP fun r => decide (dot c u (vec r) = 0)) <= flatN x c d := by
  obtain ⟨k, ⟨y, hy, hyk, hyu⟩, hk2⟩ := least_ex (P := fun k => ∃ y : Vec, nz c y /\ x.length - (x.countP fun r => decide (dot c y (vec r) = 0)) = k /\ (x.countP fun r => decide (dot c u (vec r) = 0)) <= (x.countP fun r => decide (dot c y (vec r) = 0))) _ ⟨u, hu, rfl, Nat.le_refl _⟩
  have hle : ∀ q : Vec, (x.countP fun r => decide (dot c q (vec r) = 0)) <= x.length := fun q => List.countP_le_length
  obtain ⟨d, hd, t, ht, hdt⟩ := ray_of hs hc hy fun y' hy' => by
    apply Classical.byContradiction
    intro hno
    obtain ⟨v, hv, hne⟩ : ∃ v ∈ vecs x, dot c y v ≠ 0 := by
      apply Classical.byContradiction
      intro h
      exact hy.not (hf y fun v hv => Classical.byContradiction fun e => h ⟨v, hv, e⟩)
    obtain ⟨r0, hr0, rfl⟩ := List.mem_map.1 hv
    have hlin : ∀ v, dot c (fun j => y' j + (-(dot c y' (vec r0) / dot c y (vec r0))) * y j) v = dot c y' v + (-(dot c y' (vec r0) / dot c y (vec r0))) * dot c y v := fun v => dot_lin c y' y _ v
    have hz0 : dot c (fun j => y' j + (-(dot c y' (vec r0) / dot c y (vec r0))) * y j) (vec r0) = 0 := by
      rw [hlin]
      have : dot c y' (vec r0) / dot c y (vec r0) * dot c y (vec r0) = dot c y' (vec r0) := Rat.div_mul_cancel hne
      grind
    have hnz : nz c (fun j => y' j + (-(dot c y' (vec r0) / dot c y (vec r0))) * y j) := nz_of fun h => hno ⟨dot c y' (vec r0) / dot c y (vec r0), fun j hj => by have := h j hj; grind⟩
    have hlt : (x.countP fun r => decide (dot c y (vec r) = 0)) < (x.countP fun r => decide (dot c (fun j => y' j + (-(dot c y' (vec r0) / dot c y (vec r0))) * y j) (vec r) = 0)) :=
      countP_lt (fun r hr h => by
        have h : dot c y (vec r) = 0 := by simpa using h
        have h2 := hy' (vec r) (List.mem_filter.2 ⟨List.mem_map.2 ⟨r, hr, rfl⟩, by simpa using h⟩)
        simp only [decide_eq_true_eq]
        rw [hlin, h, h2]; grind) hr0 (by simpa using hne) (by simpa using hz0)
    have := hk2 _ ⟨_, hnz, rfl, by omega⟩
    have := hle (fun j => y' j + (-(dot c y' (vec r0) / dot c y (vec r0))) * y j)
    omega
  refine ⟨d, hd, Nat.le_trans hyu ?_⟩
  unfold flatN
  refine List.countP_mono_left fun r _ h => ?_
  have h : dot c y (vec r) = 0 := by simpa using h
  simp only [decide_eq_true_eq]
  rw [dot_congr hdt, dot_mul, h]; grind
theorem asc_sub {S : List Nat} {n : Nat} (hS : S.Pairwise (· < ·)) (hSn : ∀ i ∈ S, i < n) : S.Sublist (List.range n) := by
  have h : S = (List.range n).filter (· ∈ S) := inc_eq _ _ hS (List.Pairwise.filter _ List.pairwise_lt_range) fun i => by
    simp only [List.mem_filter, List.mem_range, decide_eq_true_eq]
    exact ⟨fun h => ⟨hSn i h, h⟩, fun h => h.2⟩
  rw [h]
  exact List.filter_sublist
theorem range_getD (x : Mat) : (List.range x.length).map (fun i => x.getD i []) = x := by
  refine List.ext_getElem (by simp) fun i h1 h2 => ?_
  simp [List.getD_eq_getElem?_getD, h2]
theorem pick_sub {x : Mat} {S : List Nat} (hS : S.Pairwise (· < ·)) (hSn : ∀ i ∈ S, i < x.length) : (S.map fun i => x.getD i []).Sublist x := by
  have := (asc_sub hS hSn).map fun i => x.getD i []
  rwa [range_getD] at this
theorem plane_rank {n c : Nat} {x : Mat} (hs : Shp n c x) (hc : 0 < c) (S : List Nat) (hS : S.Pairwise (· < ·)) (hSn : ∀ i ∈ S, i < x.length) (hl : planeL x c < S.length) : ¬ (redP (S.map fun i => x.getD i []) c).2.length < c := by
  intro hr
  have hsub := pick_sub hS hSn
  have hle : S.length <= x.length := by have := hsub.length_le; simpa using this
  have hsh : Shp S.length c (S.map fun i => x.getD i []) := ⟨by simp, fun r hr => hs.2 r (hsub.subset hr)⟩
  have hfu : ¬ (redP x c).2.length < c := fun h => by
    unfold planeL at hl
    rw [if_pos h] at hl; omega
  obtain ⟨y, hy, hno⟩ : ∃ y, Ort c (vecs (S.map fun i => x.getD i [])) y /\ nz c y := by
    have hb := null_basis hsh
    have h0 : 0 < (nullM (S.map fun i => x.getD i []) c).length := by rw [nullM_len hsh]; omega
    refine ⟨_, hb.mem 0 h0, nz_of fun h => ?_⟩
    have := hb.li (fun i => if i = 0 then 1 else 0) (fun j hj => by
      unfold cmb
      rw [sm_one 0 h0 fun i _ hi => by show (if i = 0 then (1 : Rat) else 0) * _ = 0; rw [if_neg hi]; grind]
      rw [h j hj]; grind) 0 h0
    have this : (if (0 : Nat) = 0 then (1 : Rat) else 0) = 0 := this
    rw [if_pos rfl] at this
    exact absurd this (by decide)
  obtain ⟨d, hd, hle2⟩ := ray_flat hs hc (full_of hs hfu) y hno
  have h1 : S.length <= x.countP fun r => decide (dot c y (vec r) = 0) := by
    have h2 := hsub.countP_le (p := fun r => decide (dot c y (vec r) = 0))
    have h3 : (S.map fun i => x.getD i []).countP (fun r => decide (dot c y (vec r) = 0)) = S.length := by
      rw [List.countP_eq_length.2 fun r hr => by
        have := hy (vec r) (List.mem_map.2 ⟨r, hr, rfl⟩)
        rw [dot_comm] at this
        simpa using this]
      simp
    omega
  have h4 : flatN x c d <= planeL x c := by
    unfold planeL
    rw [if_neg hfu]
    exact le_maxL (List.mem_map.2 ⟨d, hd, rfl⟩)
  omega
end Go.Lin
namespace Go.Lin
def app (c : Nat) (f : F2) (x : Nat -> Rat) (i : Nat) : Rat := sm c fun j => f i j * x j
def gr (n : Nat) (f : F2) : F2 := fun i j => sm n fun r => f r i * f r j
def gy (n : Nat) (f : F2) (y : Nat -> Rat) : Nat -> Rat := fun i => sm n fun r => f r i * y r
def NS (n c : Nat) (f : F2) (y b : Nat -> Rat) : Prop := ∀ i, i < c -> sm c (fun j => gr n f i j * b j) = gy n f y i
theorem Rref.drop {n c : Nat} {f : F2} {p : List Nat} (h : Rref n (c + 1) f p) (hc : c ∉ p) : Rref n c f p :=
  ⟨h.le, fun i hi => by
    have h1 := h.lt i hi
    have h2 : p[i] ≠ c := by rintro rfl; exact hc (List.getElem_mem _)
    omega, h.inc, h.left, h.one, h.zero, fun i h1 h2 j hj => h.below i h1 h2 j (by omega)⟩
end Go.Lin
namespace Go.Lin
def Inv (m : Nat) (G v : F2) : Prop := (∀ a, a < m -> ∀ b, b < m -> sm m (fun k => G a k * v k b) = if a = b then 1 else 0) /\ ∀ a, a < m -> ∀ b, b < m -> sm m (fun k => v a k * G k b) = if a = b then 1 else 0
def hat (m : Nat) (u v : F2) : F2 := fun i j => sm m fun a => u i a * sm m fun b => v a b * u j b
end Go.Lin
namespace Go.Lim
theorem canon_len0 {l : List Nat} {n : Nat} (h : Canon l n) : l.length = 0 ↔ n = 0 := by
  rw [<- canon_nil_iff h]; exact List.length_eq_zero_iff
def validZ (s : Bool) (m : List Nat) : Bool := validL m && (decide (0 < m.length) || !s)
noncomputable def zval (s : Bool) (m : List Nat) : Int := if validZ s m then (if s then -(nv m : Int) else nv m) else 0
def CanZ (s : Bool) (m : List Nat) (z : Int) : Prop := s = decide (z < 0) /\ Canon m z.natAbs
theorem CanZ.of_valid {s : Bool} {m : List Nat} (hd : Dig m) (h : validZ s m = true) : CanZ s m (zval s m) := by
  have hv : validL m = true := by unfold validZ at h; simp at h; exact h.1
  have hc : Canon m (nv m) := ⟨hd, hv, rfl⟩
  have h0 := canon_len0 hc
  unfold zval
  rw [if_pos h]
  cases s
  · simp only [Bool.false_eq_true, if_false]
    exact ⟨by simp, by simpa using hc⟩
  · have hm : 0 < m.length := by unfold validZ at h; simpa [hv] using h
    simp only [if_true]
    refine ⟨?_, by simpa using hc⟩
    have : nv m ≠ 0 := fun e => by rw [e] at h0; simp at h0; simp [h0] at hm
    symm; rw [decide_eq_true_eq]; omega
theorem CanZ.valid {s : Bool} {m : List Nat} {z : Int} (h : CanZ s m z) : validZ s m = true := by
  obtain ⟨hs, hm⟩ := h
  have h0 := canon_len0 hm
  unfold validZ
  rw [hm.2.1]
  by_cases hz : z < 0
  · have : 0 < m.length := by omega
    simp [this]
  · simp [hs, hz]
theorem CanZ.val {s : Bool} {m : List Nat} {z : Int} (h : CanZ s m z) : zval s m = z := by
  unfold zval
  rw [if_pos h.valid]
  obtain ⟨hs, hm⟩ := h
  rw [hm.2.2]
  by_cases hz : z < 0
  · simp only [hs, hz, decide_true, if_true]; omega
  · simp only [hs, hz, decide_false, Bool.false_eq_true, if_false]; omega
theorem CanZ.zero : CanZ false [] 0 := ⟨rfl, Canon.nil⟩
theorem CanZ.len {s : Bool} {m : List Nat} {z : Int} (h : CanZ s m z) : m.length = lg z.natAbs := h.2.len
theorem CanZ.len0 {s : Bool} {m : List Nat} {z : Int} (h : CanZ s m z) : m.length = 0 ↔ z = 0 := by
  have := canon_len0 h.2; omega
theorem zval_lg (s : Bool) (m : List Nat) (h : Dig m) : lg (zval s m).natAbs <= m.length := by
  cases hv : validZ s m
  · unfold zval; rw [hv]; simp [lg_zero]
  · exact Nat.le_of_eq (CanZ.of_valid h hv).len.symm
theorem zval_invalid {s : Bool} {m : List Nat} (h : validZ s m = false) : zval s m = 0 := by unfold zval; rw [h]; rfl
def dn (q : Rat) : Nat := if q.den = 1 then 0 else q.den
def CanQ (s : Bool) (m d : List Nat) (q : Rat) : Prop := CanZ s m q.num /\ Canon d (dn q)
noncomputable def validQ (s : Bool) (m d : List Nat) : Bool := validZ s m && validL d && (decide (d.length = 0) || (decide (0 < m.length) && !(nv d == 1) && (Nat.gcd (nv m) (nv d) == 1)))
noncomputable def qval (s : Bool) (m d : List Nat) : Rat := if validQ s m d then mkRat (zval s m) (if d.length = 0 then 1 else nv d) else 0
theorem CanQ.of_valid {s : Bool} {m d : List Nat} (hm : Dig m) (hd : Dig d) (h : validQ s m d = true) : CanQ s m d (qval s m d) := by
  have h' := h
  unfold validQ at h'
  simp only [Bool.and_eq_true] at h'
  obtain ⟨⟨h1, h2⟩, h3⟩ := h'
  have hz := CanZ.of_valid hm h1
  have hcd : Canon d (nv d) := ⟨hd, h2, rfl⟩
  have h0 := canon_len0 hcd
  unfold qval
  rw [if_pos h]
  by_cases hl : d.length = 0
  · rw [if_pos hl]
    have e : mkRat (zval s m) 1 = ((zval s m : Int) : Rat) := by rw [<- Rat.mk_den_one]; rw [Rat.mk_eq_mkRat]
    rw [e]
    refine ⟨by simpa using hz, ?_⟩
    have : nv d = 0 := h0.1 hl
    simp only [dn, Rat.den_intCast, if_true]
    rw [this] at hcd; exact hcd
  · rw [if_neg hl]
    have hne : nv d ≠ 0 := fun e => hl (h0.2 e)
    simp [hl] at h3
    obtain ⟨⟨h4, h5⟩, h6⟩ := h3
    have habs : (zval s m).natAbs = nv m := by have := hz.2.2.2; omega
    have hg : (nv d).gcd (zval s m).natAbs = 1 := by rw [habs, Nat.gcd_comm]; exact h6
    have e1 : (mkRat (zval s m) (nv d)).num = zval s m := by rw [Rat.num_mkRat, if_neg hne, hg]; simp
    have e2 : (mkRat (zval s m) (nv d)).den = nv d := by rw [Rat.den_mkRat, if_neg hne, hg]; simp
    exact ⟨by rw [e1]; exact hz, by unfold dn; rw [e2, if_neg h5]; exact hcd⟩
theorem CanQ.valid {s : Bool} {m d : List Nat} {q : Rat} (h : CanQ s m d q) : validQ s m d = true := by
  obtain ⟨h1, h2⟩ := h
  have h3 := canon_len0 h2
  have h4 := h1.len0
  have h5 := q.reduced
  have h6 := q.den_nz
  unfold validQ
  rw [h1.valid, h2.2.1, h2.2.2, h1.2.2.2]
  by_cases hd : q.den = 1
  · have : d.length = 0 := by rw [h3]; unfold dn; rw [if_pos hd]
    simp [this]
  · have e : dn q = q.den := by unfold dn; rw [if_neg hd]
    rw [e] at h3 |-
    have hn : q.num ≠ 0 := fun e => by rw [e] at h5; simp [Nat.Coprime] at h5; exact hd h5
    have hm : 0 < m.length := by omega
    have hg : q.num.natAbs.gcd q.den = 1 := h5
    simp [hm, hd, hg]
theorem CanQ.val {s : Bool} {m d : List Nat} {q : Rat} (h : CanQ s m d q) : qval s m d = q := by
  unfold qval
  rw [if_pos h.valid]
  obtain ⟨h1, h2⟩ := h
  have h3 := canon_len0 h2
  rw [h1.val, h2.2.2]
  by_cases hd : q.den = 1
  · have : d.length = 0 := by rw [h3]; unfold dn; rw [if_pos hd]
    rw [if_pos this]
    conv => rhs; rw [<- Rat.mkRat_self q]
    rw [hd]
  · have e : dn q = q.den := by unfold dn; rw [if_neg hd]
    have hl : d.length ≠ 0 := by rw [e] at h3; have := q.den_nz; omega
    rw [if_neg hl, e, Rat.mkRat_self]
theorem CanQ.unique {s s' : Bool} {m d m' d' : List Nat} {q : Rat} (h : CanQ s m d q) (h' : CanQ s' m' d' q) : s = s' /\ m = m' /\ d = d' :=
  ⟨h.1.1.trans h'.1.1.symm, h.1.2.unique h'.1.2, h.2.unique h'.2⟩
theorem CanQ.zero : CanQ false [] [] 0 := ⟨CanZ.zero, by simp [dn]; exact Canon.nil⟩
theorem CanQ.ofInt {s : Bool} {m : List Nat} {z : Int} (h : CanZ s m z) : CanQ s m [] (z : Rat) := ⟨by simpa using h, by simp [dn]; exact Canon.nil⟩
theorem qval_invalid {s : Bool} {m d : List Nat} (h : validQ s m d = false) : qval s m d = 0 := by unfold qval; rw [h]; rfl
def hq (q : Rat) : Nat := max (lg q.num.natAbs) (lg q.den)
theorem hq_num (q : Rat) : lg q.num.natAbs <= hq q := Nat.le_max_left _ _
theorem hq_den (q : Rat) : lg q.den <= hq q := Nat.le_max_right _ _
theorem hq_dn (q : Rat) : lg (dn q) <= hq q := by
  unfold dn; split
  · simp [lg_zero]
  · exact hq_den q
theorem lg_one : lg 1 = 1 := lg_one_iff (by omega) (by omega)
theorem lg_two_pow_ge {n : Nat} (h : 0 < n) : 1 <= lg n := lg_pos h
theorem hq_pos (q : Rat) : 1 <= hq q := Nat.le_trans (lg_two_pow_ge q.den_pos) (hq_den q)
theorem hq_mkRat (z : Int) (d k : Nat) (h1 : lg z.natAbs <= k) (h2 : lg d <= k) (hk : 1 <= k) : hq (mkRat z d) <= k := by
  by_cases hd : d = 0
  · subst hd; rw [Rat.mkRat_zero]; unfold hq; simp [lg_zero, lg_one]; exact hk
  · unfold hq
    rw [Rat.num_mkRat, Rat.den_mkRat, if_neg hd, if_neg hd]
    refine Nat.max_le.2 ⟨Nat.le_trans (lg_mono ?_) h1, Nat.le_trans (lg_mono (Nat.div_le_self _ _)) h2⟩
    exact Int.natAbs_ediv_le_natAbs _ _
theorem hq_add (x y : Rat) : hq (x + y) <= hq x + hq y + 1 := by
  rw [Rat.add_def']
  refine hq_mkRat _ _ _ ?_ (Nat.le_trans (lg_mul _ _) (by have := hq_den x; have := hq_den y; omega)) (by omega)
  refine Nat.le_trans (lg_mono (Int.natAbs_add_le _ _)) ?_
  refine Nat.le_trans (lg_add _ _) ?_
  rw [Int.natAbs_mul, Int.natAbs_mul, Int.natAbs_natCast, Int.natAbs_natCast]
  have a1 := lg_mul x.num.natAbs y.den
  have a2 := lg_mul y.num.natAbs x.den
  have := hq_num x; have := hq_num y; have := hq_den x; have := hq_den y
  omega
theorem hq_mul (x y : Rat) : hq (x * y) <= hq x + hq y := by
  rw [Rat.mul_def']
  refine hq_mkRat _ _ _ ?_ (Nat.le_trans (lg_mul _ _) (by have := hq_den x; have := hq_den y; omega)) (by have := hq_pos x; omega)
  rw [Int.natAbs_mul]
  have := lg_mul x.num.natAbs y.num.natAbs
  have := hq_num x; have := hq_num y
  omega
theorem hq_neg (x : Rat) : hq (-x) = hq x := by unfold hq; simp
theorem hq_sub (x y : Rat) : hq (x - y) <= hq x + hq y + 1 := by
  rw [Rat.sub_eq_add_neg, <- hq_neg y]; exact hq_add _ _
theorem hq_zero : hq 0 = 1 := by unfold hq; simp [lg_zero, lg_one]
theorem hq_inv (x : Rat) : hq x⁻¹ <= hq x := by
  by_cases h : x = 0
  · subst h; simp
  · have hn : x.num ≠ 0 := fun e => h (Rat.num_eq_zero.1 e)
    unfold hq
    rw [Rat.num_inv, Rat.den_inv, if_neg hn, Int.natAbs_mul, Int.natAbs_sign_of_ne_zero hn, Nat.one_mul, Int.natAbs_natCast, Nat.max_comm]
    exact Nat.le_refl _
theorem hq_div (x y : Rat) : hq (x / y) <= hq x + hq y := by
  rw [Rat.div_def]; exact Nat.le_trans (hq_mul _ _) (by have := hq_inv y; omega)
theorem hq_int (z : Int) (k : Nat) (h : lg z.natAbs <= k) (hk : 1 <= k) : hq (z : Rat) <= k := by
  unfold hq; rw [Rat.num_intCast, Rat.den_intCast, lg_one]; exact Nat.max_le.2 ⟨h, hk⟩
theorem qval_hq (s : Bool) (m d : List Nat) (k : Nat) (hm : Dig m) (hd : Dig d) (h1 : m.length <= k) (h2 : d.length <= k) (hk : 1 <= k) : hq (qval s m d) <= k := by
  cases hv : validQ s m d
  · rw [qval_invalid hv, hq_zero]; exact hk
  · have hc := CanQ.of_valid hm hd hv
    have e1 := hc.1.len
    have e2 := hc.2.len
    unfold hq
    refine Nat.max_le.2 ⟨by omega, ?_⟩
    unfold dn at e2
    split at e2
    · rename_i h; rw [h, lg_one]; exact hk
    · omega
theorem CanQ.lowest {s : Bool} {n d : List Nat} {z : Int} {k : Nat} (hk : k ≠ 0) (hs : s = decide (z < 0)) (hn : Canon n (z.natAbs / Nat.gcd z.natAbs k)) (hd : Canon d (k / Nat.gcd z.natAbs k)) : CanQ s n (if k / Nat.gcd z.natAbs k = 1 then [] else d) (mkRat z k) := by
  have hg : 0 < Nat.gcd z.natAbs k := Nat.gcd_pos_of_pos_right _ (by omega)
  have e1 : (mkRat z k).num = z / (Nat.gcd z.natAbs k : Nat) := by rw [Rat.num_mkRat, if_neg hk, Nat.gcd_comm]
  have e2 : (mkRat z k).den = k / Nat.gcd z.natAbs k := by rw [Rat.den_mkRat, if_neg hk, Nat.gcd_comm]
  have hdv : ((Nat.gcd z.natAbs k : Nat) : Int) ∣ z := Int.ofNat_dvd_left.2 (Nat.gcd_dvd_left _ _)
  have e3 : (mkRat z k).num.natAbs = z.natAbs / Nat.gcd z.natAbs k := by rw [e1, Int.natAbs_ediv_of_dvd hdv, Int.natAbs_natCast]
  refine ⟨⟨?_, by rw [e3]; exact hn⟩, ?_⟩
  · rw [hs, Bool.eq_iff_iff]
    simp only [decide_eq_true_eq]
    rw [e1]
    obtain ⟨g, hgg⟩ : ∃ g, Nat.gcd z.natAbs k = g := ⟨_, rfl⟩
    rw [hgg] at hdv hg |-
    obtain ⟨c, rfl⟩ := hdv
    rw [Int.mul_ediv_cancel_left _ (by omega)]
    constructor
    · intro h
      by_cases h0 : c < 0
      · exact h0
      · have := Int.mul_nonneg (Int.natCast_nonneg g) (show 0 <= c by omega); omega
    · intro h
      exact Int.mul_neg_of_pos_of_neg (by omega) h
  · unfold dn
    rw [e2]
    split
    · exact Canon.nil
    · exact hd
end Go.Lim
namespace Go.Lin
open Go.Lim
def HB (B : Nat) (m : Mat) : Prop := ∀ i j, hq (ent m i j) <= B
theorem HB.pos {B : Nat} {m : Mat} (h : HB B m) : 1 <= B := Nat.le_trans (hq_pos _) (h 0 0)
theorem HB.mono {B C : Nat} {m : Mat} (h : HB B m) (hBC : B <= C) : HB C m := fun i j => Nat.le_trans (h i j) hBC
theorem HB.swap {n c B : Nat} {m : Mat} (h : HB B m) (hs : Shp n c m) {i k : Nat} (hi : i < n) (hk : k < n) : HB B (swapL m i k) := fun r j => by
  rw [ent_swap hs hi hk]; split
  · exact h _ _
  · split
    · exact h _ _
    · exact h _ _
theorem hq_elim {x y z u : Rat} {B : Nat} (hx : hq x <= B) (hy : hq y <= B) (hz : hq z <= B) (hu : hq u <= B) : hq (y / z) <= 2 * B /\ hq (y / z * u) <= 3 * B /\ hq (x - y / z * u) <= 5 * B := by
  have h1 := hq_div y z
  have h2 := hq_mul (y / z) u
  have h3 := hq_sub x (y / z * u)
  have h4 := hq_pos x
  omega
theorem HB.clear {n c B : Nat} {m : Mat} (h : HB B m) (hs : Shp n c m) {t : Nat} (ht : t < n) (col s : Nat) : HB (5 * B) (clear m t col s) := fun i j => by
  rw [ent_clear hs ht]; split
  · exact (hq_elim (h _ _) (h _ _) (h _ _) (h _ _)).2.2
  · have := h i j; omega
theorem HB.eN {n c B : Nat} {m : Mat} (h : HB B m) (hs : Shp n c m) (k : Nat) : HB (5 ^ (eN m k).2.1.length * B) (eN m k).1 := by
  induction k with
  | zero => simpa [Lin.eN] using h
  | succ k ih =>
    have hk := eN_ok hs k
    show HB (5 ^ (eStep (Lin.eN m k) k).2.1.length * B) (eStep (Lin.eN m k) k).1
    generalize Lin.eN m k = s at ih hk |-
    obtain ⟨M, p, odd⟩ := s
    have hM : Shp n c M := hk.shp
    have hl := hM.1
    have hle : p.length <= n := hk.ech.le
    unfold eStep
    dsimp only at ih |-
    split
    · exact ih
    · split
      · exact ih
      · rename_i e _ q hz
        obtain ⟨h1, h2⟩ := nzAt_some hz
        have := (ih.swap hM (show p.length < n by omega) (show p.length + q < n by omega)).clear (hM.swap (by omega) (by omega)) (show p.length < n by omega) k M.length
        refine this.mono ?_
        rw [List.length_append, List.length_singleton, Nat.pow_succ, Nat.mul_comm _ 5, Nat.mul_assoc]; exact Nat.le_refl _
theorem HB.divL {n c B : Nat} {m : Mat} (h : HB B m) (hs : Shp n c m) {i : Nat} (hi : i < n) (col : Nat) : HB (2 * B) (divL m i col) := fun k j => by
  rw [ent_divL hs hi]; split
  · have := hq_div (ent m i j) (ent m i col); have := h i j; have := h i col; omega
  · have := h k j; omega
theorem hq_elim2 {x y z u : Rat} {B : Nat} (hx : hq x <= B) (hy : hq y <= B) (hz : hq z <= 2 * B) (hu : hq u <= 2 * B) : hq (y / z) <= 3 * B /\ hq (y / z * u) <= 5 * B /\ hq (x - y / z * u) <= 7 * B := by
  have h1 := hq_div y z
  have h2 := hq_mul (y / z) u
  have h3 := hq_sub x (y / z * u)
  have h4 := hq_pos x
  omega
theorem HB.dStep {n c B : Nat} {m : Mat} (h : HB B m) (hs : Shp n c m) {t : Nat} (ht : t < n) (col s : Nat) : HB (7 * B) (above (Lin.divL m t col) t col s) := fun i j => by
  have hd := hs.divL ht col
  have h2 := h.divL hs ht col
  rw [ent_above hd ht]; split
  · refine (hq_elim2 ?_ ?_ (h2 _ _) (h2 _ _)).2.2
    · rw [ent_divL hs ht, if_neg (by omega)]; exact h _ _
    · rw [ent_divL hs ht, if_neg (by omega)]; exact h _ _
  · have := h2 i j; omega
theorem HB.dN {n c B : Nat} {m : Mat} {p : List Nat} (h : HB B m) (hs : Shp n c m) (he : Ech n c (ent m) p) (t : Nat) (ht : t <= p.length) : HB (7 ^ t * B) (dN m p t) := by
  induction t with
  | zero => simpa [Lin.dN] using h
  | succ t ih =>
    have hk := dN_ok hs he t (by omega)
    have hle := he.le
    refine ((ih (by omega)).dStep hk.shp (show t < n by omega) (p.getD t 0) t).mono ?_
    rw [Nat.pow_succ, Nat.mul_comm _ 7, Nat.mul_assoc]; exact Nat.le_refl _
theorem HB.pv {n c B : Nat} {m : Mat} (h : HB B m) (hs : Shp n c m) {i : Nat} (hi : i < n) (col : Nat) : HB (3 * B) (pv m i col) := fun k j => by
  rw [ent_pv hs hi]; split
  · have h1 := hq_mul (ent m i j) (1 / ent m i col); have h2 := hq_div 1 (ent m i col); have := h i j; have := h i col; have := hq_pos (ent m i j)
    have h3 : hq 1 = 1 := by decide +kernel
    omega
  · have := h k j; omega
theorem HB.out {n c B : Nat} {m : Mat} (h : HB B m) (hs : Shp n c m) {t : Nat} (ht : t < n) (col s : Nat) : HB (6 * B) (Lin.out (Lin.pv m t col) t col s) := fun i j => by
  have hd := hs.pv ht col
  have h2 := h.pv hs ht col
  rw [ent_outm hd ht]; split
  · rename_i a
    have e : ∀ j, ent (Lin.pv m t col) i j = ent m i j := fun j => by rw [ent_pv hs ht, if_neg a.1]
    rw [e, e]
    have h3 := hq_mul (ent (Lin.pv m t col) t j) (- ent m i col)
    have h4 := hq_add (ent m i j) (ent (Lin.pv m t col) t j * - ent m i col)
    rw [hq_neg] at h3
    have := h2 t j; have := h i j; have := h i col; have := h.pos
    omega
  · have := h2 i j; omega
theorem HB.rN {n c B : Nat} {m : Mat} (h : HB B m) (hs : Shp n c m) (k : Nat) : HB (6 ^ (rN m k).2.1.length * B) (rN m k).1 /\ hq (rN m k).2.2 <= 6 ^ (rN m k).2.1.length * B := by
  induction k with
  | zero => exact ⟨by simpa [Lin.rN] using h, by simp [Lin.rN]; exact h.pos⟩
  | succ k ih =>
    have hk := rN_ok hs k
    show HB (6 ^ (rStep (Lin.rN m k) k).2.1.length * B) (rStep (Lin.rN m k) k).1 /\ hq (rStep (Lin.rN m k) k).2.2 <= 6 ^ (rStep (Lin.rN m k) k).2.1.length * B
    generalize Lin.rN m k = s at ih hk |-
    obtain ⟨M, p, fac⟩ := s
    have hM : Shp n c M := hk.shp
    have hl := hM.1
    have hle : p.length <= n := hk.ref.le
    unfold rStep
    dsimp only at ih |-
    split
    · exact ih
    · rename_i e q hz
      obtain ⟨h1, h2⟩ := nzAt_some hz
      have hsw := (ih.1.swap hM (show p.length + q < n by omega) (show p.length < n by omega))
      have := hsw.out (hM.swap (by omega) (by omega)) (show p.length < n by omega) k M.length
      have he : 6 * (6 ^ p.length * B) = 6 ^ (p ++ [k]).length * B := by
        rw [List.length_append, List.length_singleton, Nat.pow_succ, Nat.mul_comm _ 6, Nat.mul_assoc]
      refine ⟨this.mono (Nat.le_of_eq he), ?_⟩
      dsimp only
      rw [<- he]
      have h3 := hsw p.length k
      have h4 : hq (if q = 0 then fac else -fac) <= 6 ^ p.length * B := by
        split
        · exact ih.2
        · rw [hq_neg]; exact ih.2
      have h5 := hq_mul (if q = 0 then fac else -fac) (ent (swapL M (p.length + q) p.length) p.length k)
      omega
end Go.Lin
namespace Go.Lin
open Go.Lim
def Tame (m : Mat) (c : Nat) : Prop := ∃ B, 7 * B <= 68719476736 /\ (∀ j, j <= c -> HB B (eN m j).1) /\ ∀ t, t <= (eN m c).2.1.length -> HB B (dN (eN m c).1 (eN m c).2.1 t)
theorem pow_le (a : Nat) {i n : Nat} (ha : 0 < a) (h : i <= n) : a ^ i <= a ^ n := Nat.pow_le_pow_right ha h
def TameE (m : Mat) (c : Nat) : Prop := ∃ B, 7 * B <= 68719476736 /\ ∀ j, j <= c -> HB B (eN m j).1
theorem Tame.e {m : Mat} {c : Nat} (h : Tame m c) : TameE m c := let ⟨B, h1, h2, _⟩ := h; ⟨B, h1, h2⟩
end Go.Lin
namespace Go.Lin
open Go.Lim
end Go.Lin
namespace Go.Rep
open Go.RowKit
def lenOf : Value -> Nat | .slice _ n _ => n | _ => 0
theorem hid {p : Prop} (h : p) : Hid p := h
theorem ret_slice {a : Option Addr} {n m c : Nat} (h : n = m) : Ending.returned (.slice a n c) = .returned (.slice a m c) := by rw [h]
theorem ret_int {k : IntKind} {a b : Int} (h : a = b) : Ending.returned (.int k a) = .returned (.int k b) := by rw [h]
theorem ret_bool {a b : Bool} (h : a = b) : Ending.returned (.bool a) = .returned (.bool b) := by rw [h]
theorem cast_bne0 (n : Nat) : ((n : Int) != 0) = (n != 0) := by rw [Bool.eq_iff_iff]; simp
theorem cast_mod32 (n : Nat) (h : n < 4294967296) : (n : Int) % 4294967296 = n := by omega
theorem beqF {a b : Int} (h : a ≠ b) : (a == b) = false := by simpa using h
theorem bneF {a b : Int} (h : a = b) : (a != b) = false := by simpa using h
theorem beqT {a b : Int} (h : a = b) : (a == b) = true := by simpa using h
theorem bneT {a b : Int} (h : a ≠ b) : (a != b) = true := by simpa using h
abbrev Mem := Addr -> Option Value
def Le (h h' : Mem) : Prop := ∀ a u, h a = some u -> h' a = some u
theorem Le.refl (h : Mem) : Le h h := fun _ _ x => x
theorem Le.trans {a b c : Mem} (h : Le a b) (k : Le b c) : Le a c := fun x u e => k x u (h x u e)
theorem cell_lt {w : World} {a : Addr} {u : Value} (h : w.cell? a = some u) : a.block < w.heap.size := by
  unfold World.cell? at h
  by_cases hl : a.block < w.heap.size
  · exact hl
  · rw [Array.getElem?_eq_none (by omega)] at h; simp at h
structure ExtX (Y : Nat -> Bool) (w w' : World) : Prop where
  os : w'.os = w.os
  tape : w'.tape = w.tape
  output : w'.output = w.output
  size : w.heap.size <= w'.heap.size
  block : ∀ k, k < w.heap.size -> Y k = false -> w'.heap[k]? = w.heap[k]?
def noY : Nat -> Bool := fun _ => false
abbrev Ext (w w' : World) : Prop := ExtX noY w w'
theorem ExtX.refl {Y : Nat -> Bool} (w : World) : ExtX Y w w := ⟨rfl, rfl, rfl, Nat.le_refl _, fun _ _ _ => rfl⟩
theorem ExtX.trans {Y : Nat -> Bool} {a b c : World} (h : ExtX Y a b) (k : ExtX Y b c) : ExtX Y a c :=
  ⟨k.os.trans h.os, k.tape.trans h.tape, k.output.trans h.output, Nat.le_trans h.size k.size, fun i hi hy => (k.block i (Nat.lt_of_lt_of_le hi h.size) hy).trans (h.block i hi hy)⟩
theorem ExtX.weaken {Y Z : Nat -> Bool} {a b : World} (h : ExtX Y a b) (hz : ∀ k, k < a.heap.size -> Z k = false -> Y k = false) : ExtX Z a b :=
  ⟨h.os, h.tape, h.output, h.size, fun k hk hy => h.block k hk (hz k hk hy)⟩
theorem ExtX.of {Y : Nat -> Bool} {a b : World} (h : Ext a b) : ExtX Y a b := h.weaken fun _ _ _ => rfl
theorem ExtX.alloc {Y : Nat -> Bool} {a w : World} (h : ExtX Y a w) (o : Obj) : ExtX Y a (w.alloc o) :=
  h.trans ⟨rfl, rfl, rfl, by simp, fun k hk _ => Below.heap_alloc _ _ _ hk⟩
theorem ExtX.drew {Y : Nat -> Bool} {a w : World} (h : ExtX Y a w) : ExtX Y a w.drew := ⟨h.os, h.tape, h.output, h.size, h.block⟩
theorem ExtX.drewN {Y : Nat -> Bool} {a w : World} (h : ExtX Y a w) (n : Nat) : ExtX Y a (w.drewN n) := ⟨h.os, h.tape, h.output, h.size, h.block⟩
theorem ExtX.then_ {Y Z : Nat -> Bool} {a b c : World} (h : ExtX Y a b) (k : ExtX Z b c) (hz : ∀ i, i < a.heap.size -> Y i = false -> Z i = false) : ExtX Y a c :=
  ⟨k.os.trans h.os, k.tape.trans h.tape, k.output.trans h.output, Nat.le_trans h.size k.size, fun i hi hy => (k.block i (Nat.lt_of_lt_of_le hi h.size) (hz i hi hy)).trans (h.block i hi hy)⟩
theorem ExtX.below {w w' : World} (h : Ext w w') : Below w.heap.size w w' := ⟨h.os, h.tape, h.output, h.size, fun k hk => h.block k hk rfl⟩
def mk (X : Nat -> Bool) (w : World) : Mem := fun a => if X a.block then none else w.cell? a
theorem mk_cell {X : Nat -> Bool} {w : World} {a : Addr} {u : Value} (h : mk X w a = some u) : w.cell? a = some u := by
  unfold mk at h; split at h
  · simp at h
  · exact h
theorem mk_le (X : Nat -> Bool) (w : World) : Le (mk X w) w.cell? := fun _ _ h => mk_cell h
theorem mk_noY (w : World) : mk noY w = w.cell? := by funext a; simp [mk, noY]
theorem mk_mono {X Y : Nat -> Bool} {w w' : World} (h : ExtX Y w w') (hY : ∀ k, Y k = true -> X k = true) : Le (mk X w) (mk X w') := by
  intro a u e
  have hc := mk_cell e
  have hl := cell_lt hc
  unfold mk at e |-
  by_cases hx : X a.block = true
  · simp [hx] at e
  · rw [if_neg hx]
    have hy : Y a.block = false := by
      cases hh : Y a.block
      · rfl
      · exact absurd (hY _ hh) hx
    rw [World.cell?_of_block (h.block a.block hl hy)]; exact hc
theorem mk_ext {X : Nat -> Bool} {w w' : World} (h : Ext w w') : Le (mk X w) (mk X w') := mk_mono h (fun k hk => by simp [noY] at hk)
theorem mk_sub {X Z : Nat -> Bool} {w : World} (h : ∀ k, k < w.heap.size -> X k = true -> Z k = true) : Le (mk Z w) (mk X w) := by
  intro a u e
  have hl := cell_lt (mk_cell e)
  have hc := mk_cell e
  unfold mk at e |-
  by_cases hx : X a.block = true
  · simp [h _ hl hx] at e
  · rw [if_neg hx]; exact hc
theorem mk_over {X Y Z : Nat -> Bool} {w w' : World} (h : ExtX Y w w') (hY : ∀ k, k < w.heap.size -> Y k = true -> X k = true) (hZ : ∀ k, k < w.heap.size -> Z k = true -> X k = true) : Le (mk X w) (mk Z w') := by
  intro a u e
  have hc := mk_cell e
  have hl := cell_lt hc
  unfold mk at e |-
  by_cases hx : X a.block = true
  · simp [hx] at e
  · have hz : ¬ Z a.block = true := fun hz => hx (hZ _ hl hz)
    rw [if_neg hz]
    have hy : Y a.block = false := by
      cases hh : Y a.block
      · rfl
      · exact absurd (hY _ hl hh) hx
    rw [World.cell?_of_block (h.block a.block hl hy)]; exact hc
theorem ExtX.cell {w w' : World} (h : Ext w w') {a : Addr} {u : Value} (hc : w.cell? a = some u) : w'.cell? a = some u := by
  have := mk_ext (X := noY) h a u (by rw [mk_noY]; exact hc)
  rwa [mk_noY] at this
theorem ExtX.cellY {Y : Nat -> Bool} {w w' : World} (h : ExtX Y w w') {a : Addr} {u : Value} (hc : w.cell? a = some u) (hy : Y a.block = false) : w'.cell? a = some u := by
  rw [World.cell?_of_block (h.block a.block (cell_lt hc) hy)]; exact hc
theorem cell_new {w : World} {cs : Array Value} {e : TypeId} (j : Nat) {u : Value} (h : cs[j]? = some u) : (w.alloc (.cells cs e)).cell? ⟨w.heap.size, j, none⟩ = some u := by
  unfold World.cell?
  rw [heap_alloc_new w]
  simpa using h
def ob (ao : Option Addr) : Nat -> Bool := fun k => match ao with | some a => a.block == k | none => false
def un (X : Nat -> Bool) (ao : Option Addr) : Nat -> Bool := fun k => X k || ob ao k
theorem un_left {X : Nat -> Bool} {ao : Option Addr} {k : Nat} (h : X k = true) : un X ao k = true := by simp [un, h]
theorem un_right {X : Nat -> Bool} {ao : Option Addr} {k : Nat} (h : ob ao k = true) : un X ao k = true := by simp [un, h]
theorem un_false {X : Nat -> Bool} {ao : Option Addr} {k : Nat} (h : un X ao k = false) : X k = false /\ ob ao k = false := by simpa [un] using h
def adr (ao : Option Addr) (k : Nat) : Addr := ⟨(ao.getD ⟨0, 0, none⟩).block, (ao.getD ⟨0, 0, none⟩).off + k, none⟩
@[go_sem] theorem adr_add (ao : Option Addr) (k j : Nat) : (adr ao k).add j = adr ao (k + j) := by
  unfold adr; rw [Addr.add_lit, Nat.add_assoc]
theorem adr_some (b o k : Nat) : adr (some ⟨b, o, none⟩) k = ⟨b, o + k, none⟩ := rfl
def Hd (ao : Option Addr) (n : Nat) : Prop := 0 < n -> ∃ b off, ao = some ⟨b, off, none⟩
def Sl {α : Type} (R : Mem -> Value -> α -> Prop) (sz : Nat) (h : Mem) (ao : Option Addr) (l : List α) : Prop :=
  Hd ao l.length /\ ∀ i (hi : i < l.length), ∃ u : Value, u.cells.size = sz /\ (∀ j (hj : j < u.cells.size), h (adr ao (i * sz + j)) = some u.cells[j]) /\ R h u l[i]
def Mono {α : Type} (R : Mem -> Value -> α -> Prop) : Prop := ∀ (h h' : Mem) (u : Value) (x : α), Le h h' -> R h u x -> R h' u x
def OneCell {α : Type} (R : Mem -> Value -> α -> Prop) : Prop := ∀ (h : Mem) (u : Value) (x : α), R h u x -> u.cells = #[u]
theorem Sl.hd {α : Type} {R : Mem -> Value -> α -> Prop} {sz : Nat} {h : Mem} {ao : Option Addr} {l : List α} (s : Sl R sz h ao l) : Hd ao l.length := s.1
theorem Sl.mono {α : Type} {R : Mem -> Value -> α -> Prop} (hR : Mono R) {sz : Nat} {h h' : Mem} {ao : Option Addr} {l : List α} (hl : Le h h') (s : Sl R sz h ao l) : Sl R sz h' ao l := by
  refine ⟨s.1, fun i hi => ?_⟩
  obtain ⟨u, h1, h2, h3⟩ := s.2 i hi
  exact ⟨u, h1, fun j hj => hl _ _ (h2 j hj), hR _ _ _ _ hl h3⟩
theorem Sl.nil {α : Type} (R : Mem -> Value -> α -> Prop) (sz : Nat) (h : Mem) (ao : Option Addr) : Sl R sz h ao [] :=
  ⟨fun h => by simp at h, fun i hi => by simp at hi⟩
theorem Sl.take {α : Type} {R : Mem -> Value -> α -> Prop} {sz : Nat} {h : Mem} {ao : Option Addr} {l : List α} (s : Sl R sz h ao l) (n : Nat) : Sl R sz h ao (l.take n) := by
  refine ⟨fun hn => s.1 (by simp at hn; omega), fun i hi => ?_⟩
  have hi' : i < l.length := by simp at hi; omega
  obtain ⟨u, h1, h2, h3⟩ := s.2 i hi'
  exact ⟨u, h1, h2, by simpa using h3⟩
def SlV {α : Type} (R : Mem -> Value -> α -> Prop) (sz : Nat) (h : Mem) (v : Value) (l : List α) : Prop :=
  ∃ ao cap, v = .slice ao l.length cap /\ l.length <= cap /\ Sl R sz h ao l
theorem SlV.mono {α : Type} {R : Mem -> Value -> α -> Prop} (hR : Mono R) (sz : Nat) : Mono (SlV R sz) := by
  rintro h h' u x hl ⟨ao, cap, rfl, hc, hs⟩
  exact ⟨ao, cap, rfl, hc, hs.mono hR hl⟩
theorem SlV.one {α : Type} {R : Mem -> Value -> α -> Prop} {sz : Nat} : OneCell (SlV R sz) := by
  rintro h u x ⟨ao, cap, rfl, _⟩; rfl
theorem SlV.zero {α : Type} (R : Mem -> Value -> α -> Prop) (sz : Nat) (h : Mem) : SlV R sz h (.slice none 0 0) [] :=
  ⟨none, 0, rfl, Nat.le_refl _, Sl.nil _ _ _ _⟩
def NatIn (k : IntKind) : Mem -> Value -> Nat -> Prop := fun _ u x => u = .int k (x : Int)
theorem NatIn.mono (k : IntKind) : Mono (NatIn k) := fun _ _ _ _ _ h => h
theorem NatIn.one (k : IntKind) : OneCell (NatIn k) := by rintro h u x rfl; rfl
def IntIn (k : IntKind) : Mem -> Value -> Int -> Prop := fun _ u x => u = .int k x
theorem IntIn.mono (k : IntKind) : Mono (IntIn k) := fun _ _ _ _ _ h => h
theorem IntIn.one (k : IntKind) : OneCell (IntIn k) := by rintro h u x rfl; rfl
theorem Sl.cell {α : Type} {R : Mem -> Value -> α -> Prop} {h : Mem} {ao : Option Addr} {l : List α} (s : Sl R 1 h ao l) (h1 : OneCell R) (i : Nat) (hi : i < l.length) :
    ∃ u, h (adr ao i) = some u /\ R h u l[i] := by
  obtain ⟨u, _, h2, h3⟩ := s.2 i hi
  have hc := h1 _ _ _ h3
  have h4 := h2 0 (by rw [hc]; exact Nat.one_pos)
  refine ⟨u, ?_, h3⟩
  rw [Nat.mul_one, Nat.add_zero] at h4
  rw [h4]
  simp [hc]
theorem Sl.nat {k : IntKind} {X : Nat -> Bool} {w : World} {ao : Option Addr} {l : List Nat} (s : Sl (NatIn k) 1 (mk X w) ao l) (i : Nat) (hi : i < l.length) : w.cell? (adr ao i) = some (.int k (l[i] : Int)) := by
  obtain ⟨u, h1, rfl⟩ := s.cell (NatIn.one k) i hi
  exact mk_cell h1
theorem Sl.int {k : IntKind} {X : Nat -> Bool} {w : World} {ao : Option Addr} {l : List Int} (s : Sl (IntIn k) 1 (mk X w) ao l) (i : Nat) (hi : i < l.length) : w.cell? (adr ao i) = some (.int k l[i]) := by
  obtain ⟨u, h1, rfl⟩ := s.cell (IntIn.one k) i hi
  exact mk_cell h1
theorem Sl.slice {α : Type} {R : Mem -> Value -> α -> Prop} {sz : Nat} {X : Nat -> Bool} {w : World} {ao : Option Addr} {l : List (List α)} (s : Sl (SlV R sz) 1 (mk X w) ao l) (i : Nat) (hi : i < l.length) :
    ∃ a c, w.cell? (adr ao i) = some (.slice a l[i].length c) /\ l[i].length <= c /\ Sl R sz (mk X w) a l[i] := by
  obtain ⟨u, h1, a, c, rfl, h2, h3⟩ := s.cell SlV.one i hi
  exact ⟨a, c, mk_cell h1, h2, h3⟩
structure SliceT (P : Program) (t e sz by_ : Nat) (z : Value) : Prop where
  und : P.underlying t = some (.slice e)
  info : (P.info? e).map (fun i => (i.zero, i.size, i.bytes)) = some (some z, sz, by_)
def TyI (P : Program) (t sz : Nat) : Prop := ∃ ti, P.info? t = some ti /\ ti.size = sz
section
variable {P : Program} {ops : Array Oper} {Q : Exit -> Act -> World -> Prop} {rest : List Oper} {a : Act} {w : World}
theorem run_indexAt_adr {t e sz by_ : Nat} {z : Value} (T : SliceT P t e sz by_ z) (ao : Option Addr) (len cap : Nat) (k : IntKind) (n : Nat)
    (hb : Hd ao len) (hn : n < len) (w : World) :
    (Instr.indexAt t (.slice ao len cap) (.int k (n : Int))).run P w = .ok (.pointer (some (adr ao (n * sz)))) w := by
  obtain ⟨i, hi, hz, hsz, hby⟩ := info_parts T.info
  obtain ⟨b, off, rfl⟩ := hb (by omega)
  subst hsz
  have e : (⟨b, off, none⟩ : Addr).add (n * i.size) = ⟨b, off + n * i.size, none⟩ := Addr.add_lit _ _ _
  simp [Instr.indexAt, asIntOf, Sem.run_bind, run_underlying T.und, Result.andThen, hn, sizeOf, typeInfo, hi, adr, e]
theorem run_ix1 {t e by_ : Nat} {z : Value} (T : SliceT P t e 1 by_ z) (ao : Option Addr) (len cap : Nat) (k : IntKind) (n : Nat) {m : Int} (hb : Hd ao len) (hn : n < len) (hm : m = (n : Int)) (w : World) :
    (Instr.indexAt t (.slice ao len cap) (.int k m)).run P w = .ok (.pointer (some (adr ao n))) w := by
  subst hm
  rw [run_indexAt_adr (P := P) T ao len cap k n hb hn w, Nat.mul_one]
theorem up_ix1 {o : Oper} {K : Act -> World -> Prop} {t e by_ : Nat} {z : Value} (T : SliceT P t e 1 by_ z) {ao : Option Addr} {len cap : Nat} {k : IntKind} {m : Int}
    (h0 : 0 <= m /\ m < (len : Int)) (hb : Hd ao len) (h : K (a.put o.dst (.pointer (some (adr ao m.toNat)))) w) :
    o.upon P a K Q ((Sem.run P (Instr.indexAt t (.slice ao len cap) (.int k m)) w).andThen fun v w => .ok (.value v) w) := by
  obtain ⟨n, rfl⟩ := Int.eq_ofNat_of_zero_le h0.1
  rw [run_indexAt_adr (P := P) T ao len cap k n hb (by omega) w, Nat.mul_one]
  exact h
theorem up_ixn {o : Oper} {K : Act -> World -> Prop} {t e sz by_ : Nat} {z : Value} (T : SliceT P t e sz by_ z) {ao : Option Addr} {len cap : Nat} {k : IntKind} {m : Int}
    (h0 : 0 <= m /\ m < (len : Int)) (hb : Hd ao len) (h : K (a.put o.dst (.pointer (some (adr ao (m.toNat * sz))))) w) :
    o.upon P a K Q ((Sem.run P (Instr.indexAt t (.slice ao len cap) (.int k m)) w).andThen fun v w => .ok (.value v) w) := by
  obtain ⟨n, rfl⟩ := Int.eq_ofNat_of_zero_le h0.1
  rw [run_indexAt_adr (P := P) T ao len cap k n hb (by omega) w]
  exact h
end
end Go.Rep
namespace Go.Rep
open Go.RowKit
def cellsL (u : Value) : List Value := u.cells.toList
theorem flat_length {sz : Nat} : ∀ (us : List Value), (∀ u ∈ us, u.cells.size = sz) -> (us.flatMap cellsL).length = us.length * sz
  | [], _ => by simp
  | u :: us, h => by
    rw [List.flatMap_cons, List.length_append, flat_length us (fun x hx => h x (List.mem_cons_of_mem _ hx)), List.length_cons, Nat.succ_mul]
    have : (cellsL u).length = sz := by simp [cellsL, h u (List.mem_cons_self ..)]
    omega
theorem flat_get {sz : Nat} : ∀ (us : List Value) (i j : Nat) (hi : i < us.length), (∀ u ∈ us, u.cells.size = sz) -> j < sz -> (us.flatMap cellsL)[i * sz + j]? = (cellsL us[i])[j]?
  | u :: us, i, j, hi, h, hj => by
    have hu : (cellsL u).length = sz := by simp [cellsL, h u (List.mem_cons_self ..)]
    rw [List.flatMap_cons]
    match i with
    | 0 =>
      simp only [Nat.zero_mul, Nat.zero_add, List.getElem_cons_zero]
      rw [List.getElem?_append_left (by omega)]
    | i + 1 =>
      rw [List.getElem?_append_right (by rw [hu, Nat.succ_mul]; omega), hu]
      have e : (i + 1) * sz + j - sz = i * sz + j := by rw [Nat.succ_mul]; omega
      rw [e]
      simpa using flat_get us i j (by simpa using hi) (fun x hx => h x (List.mem_cons_of_mem _ hx)) hj
theorem flat_set {sz : Nat} : ∀ (us : List Value) (i : Nat) (u : Value), i < us.length -> (∀ u ∈ us, u.cells.size = sz) -> u.cells.size = sz ->
    (us.set i u).flatMap cellsL = (us.flatMap cellsL).take (i * sz) ++ cellsL u ++ (us.flatMap cellsL).drop (i * sz + sz)
  | v :: us, i, u, hi, h, hu => by
    have hv : (cellsL v).length = sz := by simp [cellsL, h v (List.mem_cons_self ..)]
    match i with
    | 0 =>
      simp only [List.set_cons_zero, List.flatMap_cons, Nat.zero_mul, List.take_zero, List.nil_append, Nat.zero_add]
      rw [List.drop_append_of_le_length (by omega), List.drop_of_length_le (by omega), List.nil_append]
    | i + 1 =>
      have ih := flat_set us i u (by simpa using hi) (fun x hx => h x (List.mem_cons_of_mem _ hx)) hu
      simp only [List.set_cons_succ, List.flatMap_cons]
      have e1 : (i + 1) * sz = (cellsL v).length + i * sz := by rw [Nat.succ_mul]; omega
      rw [ih, e1, List.take_length_add_append, Nat.add_assoc, List.drop_length_add_append]
      simp only [List.append_assoc]
structure Elem {α : Type} (R : Mem -> Value -> α -> Prop) (sz : Nat) : Prop where
  mono : Mono R
  size : ∀ (h : Mem) (u : Value) (x : α), R h u x -> u.cells.size = sz
  one : ∀ (h : Mem) (u : Value) (x : α), R h u x -> ∀ c ∈ cellsL u, c.oneCell' = true
  pos : 0 < sz
theorem NatIn.elem (k : IntKind) : Elem (NatIn k) 1 := ⟨NatIn.mono k, by rintro h u x rfl; rfl, by rintro h u x rfl c hc; simp [cellsL, Value.cells] at hc; subst hc; rfl, Nat.one_pos⟩
theorem IntIn.elem (k : IntKind) : Elem (IntIn k) 1 := ⟨IntIn.mono k, by rintro h u x rfl; rfl, by rintro h u x rfl c hc; simp [cellsL, Value.cells] at hc; subst hc; rfl, Nat.one_pos⟩
theorem SlV.elem {α : Type} {R : Mem -> Value -> α -> Prop} {sz : Nat} (h : Elem R sz) : Elem (SlV R sz) 1 :=
  ⟨SlV.mono h.mono sz, by rintro h u x ⟨ao, cap, rfl, _⟩; rfl, by rintro h u x ⟨ao, cap, rfl, _⟩ c hc; simp [cellsL, Value.cells] at hc; subst hc; rfl, Nat.one_pos⟩
def OL {α : Type} (R : Mem -> Value -> α -> Prop) (sz : Nat) (X : Nat -> Bool) (base : Nat) (e : TypeId) (w : World) (ao : Option Addr) (cap : Nat) (l : List α) : Prop :=
  (∀ k, ob ao k = true -> X k = false) /\
  ∃ us : List Value, us.length = l.length /\ (∀ u ∈ us, u.cells.size = sz) /\ (∀ u ∈ us, ∀ c ∈ cellsL u, c.oneCell' = true) /\ w.ownsRow base e sz (.slice ao l.length cap) l.length (us.flatMap cellsL) /\
    ∀ i (hi : i < us.length) (hi' : i < l.length), R (mk (un X ao) w) us[i] l[i]
section
variable {α : Type} {R : Mem -> Value -> α -> Prop} {sz : Nat} {X : Nat -> Bool} {base : Nat} {e : TypeId} {w : World} {ao : Option Addr} {cap : Nat} {l : List α}
theorem OL.nil (R : Mem -> Value -> α -> Prop) (sz : Nat) (X : Nat -> Bool) (base : Nat) (e : TypeId) (w : World) : OL R sz X base e w none 0 [] :=
  ⟨fun _ h => by simp [ob] at h, [], rfl, by simp, by simp, World.ownsRow_nil w base e sz, fun i hi => by simp at hi⟩
theorem OL.form (h : OL R sz X base e w ao cap l) : (ao = none /\ cap = 0 /\ l = []) \/ ∃ g cur, ao = some ⟨g, 0, none⟩ /\ base <= g /\ w.heap[g]? = some (.cells cur e (0, 0)) /\ l.length <= cap /\ cap <= maxLen /\ cur.size = cap * sz := by
  obtain ⟨_, us, h1, h2, _, ⟨h3, h4⟩, h5⟩ := h
  rcases h4 with ⟨hv, hn⟩ | ⟨g, c, cur, hv, h6, h7, h8, h9, h10, h11⟩
  · left
    simp at hv
    exact ⟨hv.1, hv.2.2, List.eq_nil_of_length_eq_zero hn⟩
  · right
    simp at hv
    obtain ⟨rfl, rfl⟩ := hv
    exact ⟨g, cur, rfl, h6, h7, h8, h9, h10⟩
theorem OL.block (h : OL R sz X base e w ao cap l) {k : Nat} (hk : ob ao k = true) : base <= k /\ k < w.heap.size := by
  rcases h.form with ⟨rfl, _⟩ | ⟨g, cur, rfl, h6, h7, _⟩
  · simp [ob] at hk
  · have : g = k := by simpa [ob] using hk
    subst this
    refine ⟨h6, ?_⟩
    by_cases hl : g < w.heap.size
    · exact hl
    · rw [Array.getElem?_eq_none (by omega)] at h7; simp at h7
theorem OL.ob_lt (h : OL R sz X base e w ao cap l) {k : Nat} (hk : k < base) : ob ao k = false := by
  cases hb : ob ao k
  · rfl
  · have := h.block hb; omega
theorem OL.lenCap (h : OL R sz X base e w ao cap l) : l.length <= cap := by
  rcases h.form with ⟨_, _, rfl⟩ | ⟨g, cur, _, _, _, h8, _⟩
  · simp
  · exact h8
theorem OL.hd (h : OL R sz X base e w ao cap l) : Hd ao l.length := by
  intro hn
  rcases h.form with ⟨_, _, rfl⟩ | ⟨g, cur, rfl, _⟩
  · simp at hn
  · exact ⟨g, 0, rfl⟩
theorem OL.cells (h : OL R sz X base e w ao cap l) : ∃ us : List Value, us.length = l.length /\ (∀ u ∈ us, u.cells.size = sz) /\ (∀ u ∈ us, ∀ c ∈ cellsL u, c.oneCell' = true) /\
    (∀ j u, (us.flatMap cellsL)[j]? = some u -> w.cell? (adr ao j) = some u /\ w.frozen? (adr ao j) = false) /\ ∀ i (hi : i < us.length) (hi' : i < l.length), R (mk (un X ao) w) us[i] l[i] := by
  have hf := h.form
  obtain ⟨hx, us, h1, h2, h22, ⟨h3, h4⟩, h5⟩ := h
  refine ⟨us, h1, h2, h22, fun j u hj => ?_, h5⟩
  have hlt : j < l.length * sz := by
    rw [<- h3]
    exact (List.getElem?_eq_some_iff.1 hj).1
  rcases hf with ⟨_, _, rfl⟩ | ⟨g, cur, rfl, h6, h7, h8, h9, h10⟩
  · simp at hlt
  rcases h4 with ⟨hv, hn⟩ | ⟨g', c, cur', hv, _, h7', _, _, _, h11⟩
  · simp at hv
  simp at hv
  obtain ⟨rfl, rfl⟩ := hv
  rw [h7] at h7'
  obtain rfl : cur = cur' := by simpa using h7'
  rw [<- h11, List.getElem?_take_of_lt hlt] at hj
  have hadr : adr (some ⟨g, 0, none⟩) j = ⟨g, j, none⟩ := by simp [adr]
  rw [hadr]
  simp only [Array.getElem?_toList] at hj
  simp [World.cell?, World.frozen?, h7, hj]
theorem OL.sl (hR : Elem R sz) (h : OL R sz X base e w ao cap l) : Sl R sz (mk X w) ao l := by
  refine ⟨h.hd, fun i hi => ?_⟩
  have hf := h.form
  have hx := h.1
  obtain ⟨us, h1, h2, _, h3, h5⟩ := h.cells
  have hi' : i < us.length := by omega
  refine ⟨us[i], h2 _ (List.getElem_mem _), fun j hj => ?_, hR.mono _ _ _ _ (mk_sub fun k _ hk => un_left hk) (h5 i hi' hi)⟩
  have hsz : us[i].cells.size = sz := h2 _ (List.getElem_mem _)
  have hget := flat_get us i j hi' h2 (by omega)
  have hc : (cellsL us[i])[j]? = some us[i].cells[j] := by simp [cellsL, hj]
  rw [hc] at hget
  have hg := (h3 _ _ hget).1
  unfold mk
  have : X (adr ao (i * sz + j)).block = false := by
    rcases hf with ⟨_, _, rfl⟩ | ⟨g, cur, rfl, _⟩
    · simp at hi
    · exact hx _ (by simp [ob, adr])
  rw [this]
  simpa using hg
theorem OL.cell (h1c : OneCell R) (h : OL R 1 X base e w ao cap l) (i : Nat) (hi : i < l.length) :
    ∃ u, w.cell? (adr ao i) = some u /\ w.frozen? (adr ao i) = false /\ R (mk (un X ao) w) u l[i] := by
  obtain ⟨us, h1, h2, _, h3, h5⟩ := h.cells
  have hi' : i < us.length := by omega
  have hsz : us[i].cells.size = 1 := h2 _ (List.getElem_mem _)
  have hget := flat_get us i 0 hi' h2 (by omega)
  have hc : (cellsL us[i])[0]? = some us[i].cells[0] := by simp [cellsL]
  rw [hc] at hget
  have hu := h1c _ _ _ (h5 i hi' hi)
  have := h3 _ _ hget
  simp only [Nat.mul_one, Nat.add_zero, hu] at this
  exact ⟨us[i], this.1, this.2, h5 i hi' hi⟩
theorem OL.ext (hR : Elem R sz) {Y Z : Nat -> Bool} {w' : World} (h : OL R sz X base e w ao cap l) (hE : ExtX Y w w') (hY : ∀ k, k < w.heap.size -> Y k = true -> X k = true) (hZ : ∀ k, k < w.heap.size -> Z k = true -> X k = true) : OL R sz Z base e w' ao cap l := by
  have hb := fun k (hk : ob ao k = true) => h.block hk
  obtain ⟨hx, us, h1, h2, h22, h3, h5⟩ := h
  refine ⟨fun k hk => ?_, us, h1, h2, h22, ?_, fun i hi hi' => hR.mono _ _ _ _ (mk_over hE (fun k hk hy => un_left (hY k hk hy)) (fun k hk hz => ?_)) (h5 i hi hi')⟩
  · cases hh : Z k
    · rfl
    · have := hZ k (hb k hk).2 hh; rw [hx k hk] at this; simp at this
  · refine ⟨h3.1, ?_⟩
    rcases h3.2 with h4 | ⟨g, c, cur, hv, h6, h7, h8⟩
    · exact .inl h4
    · refine .inr ⟨g, c, cur, hv, h6, ?_, h8⟩
      simp at hv
      obtain ⟨rfl, rfl⟩ := hv
      have hk : ob (some ⟨g, 0, none⟩) g = true := by simp [ob]
      rw [hE.block g (hb g hk).2, h7]
      cases hh : Y g
      · rfl
      · have := hY g (hb g hk).2 hh; rw [hx g hk] at this; simp at this
  · cases hh : Z k
    · simp [un, hh] at hz; exact un_right hz
    · exact un_left (hZ k hk hh)
theorem OL.ext0 (hR : Elem R sz) {w' : World} (h : OL R sz X base e w ao cap l) (hE : Ext w w') : OL R sz X base e w' ao cap l :=
  h.ext hR hE (fun k _ hk => by simp [noY] at hk) (fun _ _ h => h)
theorem ExtX.own {Y : Nat -> Bool} {w0 w' : World} (h : ExtX Y w0 w) (ho : OL R sz X base e w ao cap l) (hb : w0.heap.size <= base) (hE : ExtX (ob ao) w w') : ExtX Y w0 w' :=
  h.then_ hE fun i hi _ => by
    cases hk : ob ao i
    · rfl
    · have := ho.block hk; omega
theorem OL.unX (h : OL R sz X base e w ao cap l) (hX : ∀ k, X k = true -> k < w.heap.size) : ∀ k, un X ao k = true -> k < w.heap.size := by
  intro k hk
  by_cases hx : X k = true
  · exact hX k hx
  · have : ob ao k = true := by simpa [un, hx] using hk
    exact (h.block this).2
theorem OL.base_le (h : OL R sz X base e w ao cap l) {b' : Nat} (hb : b' <= base) : OL R sz X b' e w ao cap l := by
  obtain ⟨hx, us, h1, h2, h22, h3, h5⟩ := h
  refine ⟨hx, us, h1, h2, h22, ⟨h3.1, ?_⟩, h5⟩
  rcases h3.2 with h4 | ⟨g, c, cur, hv, h6, h8⟩
  · exact .inl h4
  · exact .inr ⟨g, c, cur, hv, by omega, h8⟩
end
section
variable {α : Type} {R : Mem -> Value -> α -> Prop} {sz : Nat} {X : Nat -> Bool} {base : Nat} {e : TypeId} {w : World} {ao : Option Addr} {cap : Nat} {l : List α} {P : Program}
def At (w : World) (ao : Option Addr) (us : List Value) : Prop := Hd ao us.length /\ ∀ j u, (us.flatMap cellsL)[j]? = some u -> w.cell? (adr ao j) = some u
theorem Sl.at_ (hR : Elem R sz) (h : Sl R sz (mk X w) ao l) : ∃ us : List Value, us.length = l.length /\ At w ao us /\ ∀ i (hi : i < us.length) (hi' : i < l.length), R (mk X w) us[i] l[i] := by
  have hpos := hR.pos
  have key : ∀ n, n <= l.length -> ∃ us : List Value, us.length = n /\ (∀ j u, (us.flatMap cellsL)[j]? = some u -> w.cell? (adr ao j) = some u) /\ ∀ i (hi : i < us.length) (hi' : i < l.length), R (mk X w) us[i] l[i] := by
    intro n
    induction n with
    | zero => intro _; exact ⟨[], rfl, by simp, by simp⟩
    | succ n ih =>
      intro hn
      obtain ⟨us, h1, h2, h3⟩ := ih (by omega)
      obtain ⟨u, h4, h5, h6⟩ := h.2 n (by omega)
      have hsz : ∀ v ∈ us, v.cells.size = sz := by
        intro v hv
        obtain ⟨i, hi, rfl⟩ := List.getElem_of_mem hv
        exact hR.size _ _ _ (h3 i hi (by omega))
      refine ⟨us ++ [u], by simp [h1], fun j x hj => ?_, fun i hi hi' => ?_⟩
      · rw [List.flatMap_append] at hj
        have hfl := flat_length us hsz
        by_cases hlt : j < us.length * sz
        · rw [List.getElem?_append_left (by omega)] at hj; exact h2 j x hj
        · rw [List.getElem?_append_right (by omega), hfl] at hj
          simp only [List.flatMap_cons, List.flatMap_nil, List.append_nil, cellsL] at hj
          obtain ⟨hj1, hj2⟩ := List.getElem?_eq_some_iff.1 hj
          have := h5 (j - us.length * sz) (by simpa using hj1)
          have ee : n * sz + (j - us.length * sz) = j := by rw [h1] at hlt |-; omega
          rw [ee] at this
          rw [mk_cell this]
          simp [<- hj2]
      · by_cases hlt : i < us.length
        · simpa [List.getElem_append_left hlt] using h3 i hlt hi'
        · have : i = n := by simp at hi; omega
          subst this
          simpa [List.getElem_append_right, h1] using h6
  obtain ⟨us, h1, h2, h3⟩ := key l.length (Nat.le_refl _)
  exact ⟨us, h1, ⟨by rw [h1]; exact h.1, h2⟩, h3⟩
theorem adr_addr {ad : Addr} (h : ad.spot = none) (j : Nat) : adr (some ad) j = ad.add j := by
  cases ad; simp at h; subst h; rw [Addr.add_lit]; rfl
theorem mkun_over {w' : World} {ao' : Option Addr} (hE : ExtX (ob ao) w w') (ho : ao' = ao \/ ∃ g, ao' = some ⟨g, 0, none⟩ /\ w.heap.size <= g) : Le (mk (un X ao) w) (mk (un X ao') w') := by
  refine mk_over hE (fun k _ hk => un_right hk) fun k hk hz => ?_
  rcases ho with rfl | ⟨g, rfl, hg⟩
  · exact hz
  · by_cases hx : X k = true
    · exact un_left hx
    · have : g = k := by simpa [un, hx, ob] using hz
      omega
theorem OL.run_append {t by_ : Nat} {z : Value} (T : SliceT P t e sz by_ z) (hzs : z.cells.size = sz) (hR : Elem R sz) (h : OL R sz X base e w ao cap l) (hbase : base <= w.heap.size) (hX : ∀ k, X k = true -> k < w.heap.size)
    (asl : Option Addr) (cs : Nat) (us' : List Value) (xs : List α) (hat : At w asl us') (hlen : us'.length = xs.length) (hxs : ∀ i (hi : i < us'.length) (hi' : i < xs.length), R (mk (un X ao) w) us'[i] xs[i])
    (hroom : (l.length + xs.length) * by_ <= 140737488355328) (hmax : l.length + xs.length <= 9223372036854775807) (ty : TypeId) :
    ∃ ao' cap' w', (Builtin.append_ #[t, t] ty #[.slice ao l.length cap, .slice asl xs.length cs]).run P w = .ok (.slice ao' (l ++ xs).length cap') w' /\ OL R sz X base e w' ao' cap' (l ++ xs) /\ ExtX (ob ao) w w' /\
      (ao' = ao \/ ∃ g, ao' = some ⟨g, 0, none⟩ /\ w.heap.size <= g) := by
  obtain ⟨i, hi, hz, hsz, hby⟩ := info_parts T.info
  have hpos := hR.pos
  have hus' : ∀ u ∈ us', u.cells.size = sz := by
    intro v hv
    obtain ⟨i, hi, rfl⟩ := List.getElem_of_mem hv
    exact hR.size _ _ _ (hxs i hi (by omega))
  have hone' : ∀ u ∈ us'.flatMap cellsL, u.oneCell' = true := by
    intro c hc
    obtain ⟨v, hv, hcv⟩ := List.mem_flatMap.1 hc
    obtain ⟨i, hi, rfl⟩ := List.getElem_of_mem hv
    exact hR.one _ _ _ (hxs i hi (by omega)) c hcv
  by_cases hxe : xs = []
  · subst hxe
    have hu0 : us' = [] := List.eq_nil_of_length_eq_zero (by simpa using hlen)
    subst hu0
    refine ⟨ao, cap, w, ?_, by simpa using h, ExtX.refl w, .inl rfl⟩
    have hlc := h.lenCap
    have hsz' := hsz
    subst hsz
    cases asl with
    | none => cases ao <;> simp [Builtin.append_, run_underlying T.und, sizeOf, typeInfo, hi, Builtin.lenOf, Builtin.firstCells, hlc, storeCells]
    | some asl => cases ao <;> simp [Builtin.append_, run_underlying T.und, sizeOf, typeInfo, hi, Builtin.lenOf, Builtin.firstCells, loadCells, loadCellsFrom, hlc, storeCells]
  have hxpos : 0 < xs.length := by
    cases xs with
    | nil => exact absurd rfl hxe
    | cons x xs => simp
  obtain ⟨sb, so, rfl⟩ := hat.1 (by omega)
  have hnews : ∀ j u, (us'.flatMap cellsL)[j]? = some u -> w.cell? ((⟨sb, so, none⟩ : Addr).add j) = some u := by
    intro j u hj
    rw [<- adr_addr rfl]; exact hat.2 j u hj
  have hnl : (us'.flatMap cellsL).length = xs.length * i.size := by rw [flat_length us' hus', hlen, hsz]
  have hx := h.1
  have hcells := h.cells
  have hform := h.form
  obtain ⟨_, us, h1, h2, h22, h3, h5⟩ := h
  have hul : (us.flatMap cellsL).length = l.length * i.size := by rw [flat_length us h2, h1, hsz]
  have hfl : (us ++ us').flatMap cellsL = us.flatMap cellsL ++ us'.flatMap cellsL := List.flatMap_append
  have hnew : ∀ u ∈ us ++ us', u.cells.size = sz := by
    intro u hu
    rcases List.mem_append.1 hu with hu | hu
    · exact h2 u hu
    · exact hus' u hu
  have hnew1 : ∀ u ∈ us ++ us', ∀ c ∈ cellsL u, c.oneCell' = true := by
    intro u hu c hc
    rcases List.mem_append.1 hu with hu | hu
    · exact h22 u hu c hc
    · exact hone' c (List.mem_flatMap.2 ⟨u, hu, hc⟩)
  have hRs : ∀ (ao' : Option Addr) (w' : World), ExtX (ob ao) w w' -> (ao' = ao \/ ∃ g, ao' = some ⟨g, 0, none⟩ /\ w.heap.size <= g) ->
      ∀ i (hi : i < (us ++ us').length) (hi' : i < (l ++ xs).length), R (mk (un X ao') w') (us ++ us')[i] (l ++ xs)[i] := by
    intro ao' w' hE ho i hi hi'
    have hle := mkun_over (X := X) hE ho
    by_cases hlt : i < us.length
    · simpa [List.getElem_append_left hlt, List.getElem_append_left (show i < l.length by omega)] using hR.mono _ _ _ _ hle (h5 i hlt (by omega))
    · have hb1 : i - us.length < us'.length := by simp at hi; omega
      have := hR.mono _ _ _ _ hle (hxs (i - us.length) hb1 (by omega))
      simpa [List.getElem_append_right (show us.length <= i by omega), List.getElem_append_right (show l.length <= i by omega), h1] using this
  have grown : ∀ old, old < l.length + xs.length -> ∃ g cur, g = w.heap.size /\ cur = (us.flatMap cellsL).toArray ++ (us'.flatMap cellsL).toArray ++ Builtin.zeroCells z.cells (grownCap w (l.length + xs.length) old e - (l.length + xs.length)) /\
      OL R sz X base e (w.drew.alloc (.cells cur e)) (some ⟨g, 0, none⟩) (grownCap w (l.length + xs.length) old e) (l ++ xs) /\ ExtX (ob ao) w (w.drew.alloc (.cells cur e)) := by
    intro old ho
    refine ⟨_, _, rfl, rfl, ?_, ?_⟩
    · have hge := grownCap_ge w (l.length + xs.length) old e
      have hcm : grownCap w (l.length + xs.length) old e <= maxLen := grownCap_le_maxLen w (l.length + xs.length) old e (by simpa [maxLen] using hmax)
      have hE : ExtX (ob ao) w (w.drew.alloc (.cells ((us.flatMap cellsL).toArray ++ (us'.flatMap cellsL).toArray ++ Builtin.zeroCells z.cells (grownCap w (l.length + xs.length) old e - (l.length + xs.length))) e)) := ((ExtX.refl w).drew).alloc _
      refine ⟨fun k hk => ?_, us ++ us', by simp [h1, hlen], hnew, hnew1, ⟨by rw [hfl]; simp [hul, hnl, hsz, Nat.add_mul], .inr ⟨w.heap.size, _, _, by simp, hbase, heap_alloc_new w.drew _, by simpa using hge, hcm, ?_, ?_⟩⟩, hRs _ _ hE (.inr ⟨_, rfl, Nat.le_refl _⟩)⟩
      · have : w.heap.size = k := by simpa [ob] using hk
        cases hh : X k
        · rfl
        · have := hX k hh; omega
      · simp only [Array.size_append, List.size_toArray, size_zeroCells, hzs, hul, hnl, hsz, <- Nat.add_mul]
        congr 1; omega
      · rw [hfl]
        simp only [Array.toList_append, List.length_append]
        have hll : (l.length + xs.length) * sz = (us.flatMap cellsL ++ us'.flatMap cellsL).length := by simp [hul, hnl, hsz, Nat.add_mul]
        rw [hll]
        exact List.take_left
    · exact ((ExtX.refl w).drew).alloc _
  have hll : (l ++ xs).length = l.length + xs.length := List.length_append
  rcases hform with ⟨rfl, rfl, rfl⟩ | ⟨g, cur, rfl, h6, h7, h8, h9, h10⟩
  · have hu0 : us = [] := List.eq_nil_of_length_eq_zero (by simpa using h1)
    subst hu0
    obtain ⟨g, cur, rfl, hcur, hOL, hE⟩ := grown 0 (by simp; omega)
    have hr := run_append_nil (P := P) w t ty e i z T.und hi hz ⟨sb, so, none⟩ xs.length cs (us'.flatMap cellsL) hnl hnews hxpos (by simp at hmax; omega) (by simp at hroom; rw [hby]; omega)
    simp only [List.flatMap_nil, List.length_nil, Nat.zero_add, List.nil_append, Array.empty_append] at hOL hE hcur hr |-
    subst hcur
    exact ⟨_, _, _, hr, hOL, hE, .inr ⟨_, rfl, Nat.le_refl _⟩⟩
  · by_cases hroom' : l.length + xs.length <= cap
    · have hfit : l.length * i.size + (us'.flatMap cellsL).length <= cur.size := by rw [hnl, h10, <- hsz, <- Nat.add_mul]; exact Nat.mul_le_mul_right _ hroom'
      have hr := run_append_room (P := P) w t ty e i T.und hi g l.length cap cur h7 ⟨sb, so, none⟩ xs.length cs (us'.flatMap cellsL) hnl hnews hone' hroom' hfit
      have hE : ExtX (ob (some ⟨g, 0, none⟩)) w (w.setRow g (cur.toList.take (l.length * i.size) ++ us'.flatMap cellsL ++ cur.toList.drop (l.length * i.size + (us'.flatMap cellsL).length)).toArray) :=
        ⟨rfl, rfl, rfl, by simp, fun k _ hk => setRow_other w g k _ (fun ek => by subst ek; simp [ob] at hk)⟩
      refine ⟨_, _, _, by rw [hll]; exact hr, ⟨hx, us ++ us', by simp [h1, hlen], hnew, hnew1, ⟨by rw [hfl]; simp [hul, hnl, hsz, Nat.add_mul], .inr ⟨g, cap, _, by rw [hll], h6, setRow_heap w g cur _ e _ h7, by rw [hll]; exact hroom', h9, ?_, ?_⟩⟩, hRs _ _ hE (.inl rfl)⟩, hE, .inl rfl⟩
      · simp only [List.size_toArray, List.length_append, List.length_take, List.length_drop, Array.length_toList]; omega
      · rw [hfl, hll]
        rcases h3.2 with ⟨hv, _⟩ | ⟨g', c', cur', hv, _, h7', _, _, _, h11⟩
        · simp at hv
        simp at hv
        obtain ⟨rfl, rfl⟩ := hv
        rw [h7] at h7'
        obtain rfl : cur = cur' := by simpa using h7'
        have e1 : cur.toList.take (l.length * i.size) = us.flatMap cellsL := by rw [hsz]; exact h11
        rw [e1]
        have hll2 : (l.length + xs.length) * sz = (us.flatMap cellsL ++ us'.flatMap cellsL).length := by simp [hul, hnl, hsz, Nat.add_mul]
        rw [hll2]
        exact List.take_left
    · have holds : ∀ j u, (us.flatMap cellsL)[j]? = some u -> w.cell? ((⟨g, 0, none⟩ : Addr).add j) = some u := h3.cells (g := g) rfl
      have hr := run_append_grow (P := P) w t ty e i z T.und hi hz ⟨g, 0, none⟩ l.length cap (us.flatMap cellsL) hul holds ⟨sb, so, none⟩ xs.length cs (us'.flatMap cellsL) hnl hnews (by omega) (by omega) (growslice_fits (by omega) (by rw [hby]; exact hroom))
      obtain ⟨g', cur', rfl, hcur, hOL, hE⟩ := grown cap (by omega)
      subst hcur
      exact ⟨_, _, _, by rw [hll]; exact hr, hOL, hE, .inr ⟨_, rfl, Nat.le_refl _⟩⟩
theorem OL.run_make {t by_ : Nat} {z : Value} (T : SliceT P t e sz by_ z) (hR : Elem R sz) (x0 : α) (hz : ∀ h, R h z x0) (hX : ∀ k, X k = true -> k < w.heap.size) (hbase : base <= w.heap.size)
    (kl kc : IntKind) (n : Nat) (hroom : by_ * n <= 281474976710656) (hmax : n <= 9223372036854775807) :
    ∃ ao w', (Instr.makeSlice t (.int kl (n : Int)) (.int kc (n : Int))).run P w = .ok (.slice ao n n) w' /\ OL R sz X base e w' ao n (List.replicate n x0) /\ Ext w w' := by
  obtain ⟨i, hi, hiz, hsz, hby⟩ := info_parts T.info
  have hzs : z.cells.size = sz := hR.size (fun _ => none) z x0 (hz _)
  have hpos := hR.pos
  have hr := Go.run_make (P := P) w t e i z T.und hi hiz kl kc n n (by omega) (Int.le_refl _) (by rw [hby, <- Int.natCast_mul]; omega) (by omega)
  simp only [Int.toNat_natCast] at hr
  refine ⟨_, _, hr, ⟨fun k hk => ?_, List.replicate n z, by simp, by intro u hu; rw [List.eq_of_mem_replicate hu]; exact hzs, by intro u hu; rw [List.eq_of_mem_replicate hu]; exact hR.one (fun _ => none) z x0 (hz _), ⟨?_, .inr ⟨w.heap.size, n, _, by simp, hbase, heap_alloc_new w _, by simp, by simpa [maxLen] using hmax, by rw [size_madeCells, hsz], ?_⟩⟩, fun i hi hi' => by simpa using hz _⟩, (ExtX.refl w).alloc _⟩
  · have : w.heap.size = k := by simpa [ob] using hk
    cases hh : X k
    · rfl
    · have := hX k hh; omega
  · rw [flat_length (sz := sz) _ (by intro u hu; rw [List.eq_of_mem_replicate hu]; exact hzs)]
    simp
  · apply List.ext_getElem?
    intro j
    simp only [List.length_replicate]
    by_cases hj : j < n * sz
    · rw [List.getElem?_take_of_lt hj]
      have hg := flat_get (sz := sz) (List.replicate n z) (j / sz) (j % sz) (by simpa using Nat.div_lt_of_lt_mul (by rw [Nat.mul_comm]; exact hj)) (by intro u hu; rw [List.eq_of_mem_replicate hu]; exact hzs) (Nat.mod_lt _ hpos)
      have ej : j / sz * sz + j % sz = j := by rw [Nat.mul_comm]; exact Nat.div_add_mod j sz
      rw [ej] at hg
      rw [hg]
      simp [madeCells, hsz, hj, cellsL, hzs]
      rw [Array.getElem?_eq_getElem (by rw [hzs]; exact Nat.mod_lt _ hpos)]
      rw [getElem!_pos]
    · rw [List.getElem?_eq_none (by simp [size_madeCells, hsz]; omega), List.getElem?_eq_none]
      rw [flat_length (sz := sz) _ (by intro u hu; rw [List.eq_of_mem_replicate hu]; exact hzs)]
      simp; omega
theorem OL.run_store {t : TypeId} {ti : TypeInfo} (ht : P.info? t = some ti) (hts : ti.size = sz) (hR : Elem R sz) (h : OL R sz X base e w ao cap l) (i : Nat) (hi : i < l.length) (u : Value) (x : α) (hu : R (mk (un X ao) w) u x) :
    ∃ w', (storeVar t (adr ao (i * sz)) u).run P w = .ok () w' /\ OL R sz X base e w' ao cap (l.set i x) /\ ExtX (ob ao) w w' := by
  have hus := hR.size _ _ _ hu
  have hu1 := hR.one _ _ _ hu
  have hform := h.form
  obtain ⟨hx, us, h1, h2, h22, h3, h5⟩ := h
  rcases hform with ⟨rfl, rfl, rfl⟩ | ⟨g, cur, rfl, h6, h7, h8, h9, h10⟩
  · simp at hi
  have hadr : adr (some ⟨g, 0, none⟩) (i * sz) = ⟨g, i * sz, none⟩ := by simp [adr]
  have hsub : (i + 1) * sz <= l.length * sz := Nat.mul_le_mul_right _ hi
  have hsub2 : l.length * sz <= cap * sz := Nat.mul_le_mul_right _ h8
  rw [Nat.succ_mul] at hsub
  have hst := run_storeCells_at P g (i * sz) e (cellsL u) 0 cur w h7 (by simp [cellsL, hus, h10]; omega) hu1
  have hE : ExtX (ob (some ⟨g, 0, none⟩)) w (w.setRow g (cur.toList.take (i * sz + 0) ++ cellsL u ++ cur.toList.drop (i * sz + 0 + (cellsL u).length)).toArray) :=
    ⟨rfl, rfl, rfl, by simp, fun k _ hk => setRow_other w g k _ (fun ek => by subst ek; simp [ob] at hk)⟩
  have hne : ∀ v ∈ us.set i u, v.cells.size = sz := by
    intro v hv
    rcases List.mem_or_eq_of_mem_set hv with hv | rfl
    · exact h2 v hv
    · exact hus
  refine ⟨_, ?_, ⟨hx, us.set i u, by simp [h1], hne, ?_, ⟨?_, .inr ⟨g, cap, _, by simp, h6, setRow_heap w g cur _ e _ h7, by simpa using h8, h9, ?_, ?_⟩⟩, ?_⟩, hE⟩
  · rw [hadr]
    simp [storeVar, sizeOf, typeInfo, ht, hts, hus]
    simpa [cellsL] using hst
  · intro v hv
    rcases List.mem_or_eq_of_mem_set hv with hv | rfl
    · exact h22 v hv
    · exact hu1
  · rw [flat_length _ hne]; simp [h1]
  · have hlu : (cellsL u).length = sz := by simp [cellsL, hus]
    simp only [List.size_toArray, List.length_append, List.length_take, List.length_drop, Array.length_toList, hlu, h10, Nat.add_zero]
    omega
  · rcases h3.2 with ⟨hv, _⟩ | ⟨g', c', cur', hv, _, h7', _, _, _, h11⟩
    · simp at hv
    simp at hv
    obtain ⟨rfl, rfl⟩ := hv
    rw [h7] at h7'
    obtain rfl : cur = cur' := by simpa using h7'
    have hlu : (cellsL u).length = sz := by simp [cellsL, hus]
    have hcl : cur.toList.length = cap * sz := by simp [h10]
    rw [flat_set us i u (by omega) h2 hus, <- h11]
    simp only [List.length_set, Nat.add_zero]
    have hA : (cur.toList.take (i * sz)).length = i * sz := by rw [List.length_take, hcl]; omega
    rw [hlu, List.take_append, List.take_of_length_le (by rw [List.length_append, hA, hlu]; omega), List.length_append, hA, hlu, List.take_take, Nat.min_eq_left (by omega), List.drop_take]
  · intro j hj hj'
    have hle : Le (mk (un X (some ⟨g, 0, none⟩)) w) (mk (un X (some ⟨g, 0, none⟩)) _) := mkun_over hE (.inl rfl)
    by_cases hji : i = j
    · subst hji; simpa using hR.mono _ _ _ _ hle hu
    · have := hR.mono _ _ _ _ hle (h5 j (by simpa using hj) (by simpa using hj'))
      simpa [List.getElem_set, hji] using this
end
end Go.Rep
namespace Go.Rep
open Go.RowKit
section
variable {P : Program} {ops : Array Oper} {Q : Exit -> Act -> World -> Prop} {rest : List Oper} {a : Act} {w : World}
variable {α : Type} {R : Mem -> Value -> α -> Prop} {sz : Nat} {X : Nat -> Bool} {base : Nat} {e : TypeId} {ao : Option Addr} {cap : Nat} {l : List α}
variable {d : Option Tmp} {ty : TypeId} {ps : String} {af : Array Edge}
theorem OL.lit (hR : Elem R sz) (hX : ∀ k, X k = true -> k < w.heap.size) (hbase : base <= w.heap.size) (us : List Value) (l : List α) (arr : Array Value) (harr : arr = (us.flatMap cellsL).toArray) (hlen : us.length = l.length)
    (hu : ∀ i (hi : i < us.length) (hi' : i < l.length), R (mk X w) us[i] l[i]) (hmax : l.length <= 9223372036854775807) :
    OL R sz X base e (w.alloc (.cells arr e)) (some ⟨w.heap.size, 0, none⟩) l.length l := by
  subst harr
  have hsz : ∀ u ∈ us, u.cells.size = sz := by
    intro v hv
    obtain ⟨i, hi, rfl⟩ := List.getElem_of_mem hv
    exact hR.size _ _ _ (hu i hi (by omega))
  have hE : Ext w (w.alloc (.cells (us.flatMap cellsL).toArray e)) := (ExtX.refl w).alloc _
  refine ⟨fun k hk => ?_, us, hlen, hsz, ?_, ⟨by rw [flat_length us hsz, hlen], .inr ⟨w.heap.size, _, _, rfl, hbase, heap_alloc_new w _, Nat.le_refl _, by unfold maxLen; exact hmax, by simp [flat_length us hsz, hlen], ?_⟩⟩, fun i hi hi' => ?_⟩
  · have : w.heap.size = k := by simpa [ob] using hk
    cases hh : X k
    · rfl
    · have := hX k hh; omega
  · intro v hv
    obtain ⟨i, hi, rfl⟩ := List.getElem_of_mem hv
    exact hR.one _ _ _ (hu i hi (by omega))
  · rw [List.take_of_length_le]
    simp [flat_length us hsz, hlen]
  · refine hR.mono _ _ _ _ (mk_over hE (fun k _ hk => by simp [noY] at hk) fun k hk hz => ?_) (hu i hi hi')
    by_cases hx : X k = true
    · exact hx
    · have : w.heap.size = k := by simpa [un, hx, ob] using hz
      omega
theorem mk_new (X : Nat -> Bool) (w : World) (o : Obj) : Le (mk X w) (mk (un X (some ⟨w.heap.size, 0, none⟩)) (w.alloc o)) :=
  mk_over ((ExtX.refl (Y := noY) w).alloc o) (fun k _ hk => by simp [noY] at hk) fun k hk hz => by
    by_cases hx : X k = true
    · exact hx
    · have : w.heap.size = k := by simpa [un, hx, ob] using hz
      omega
theorem at_new (w : World) (arr : Array Value) (e : TypeId) (u : Value) (harr : arr = u.cells) : At (w.alloc (.cells arr e)) (some ⟨w.heap.size, 0, none⟩) [u] := by
  subst harr
  refine ⟨fun _ => ⟨_, _, rfl⟩, fun j c hj => ?_⟩
  simp only [List.flatMap_cons, List.flatMap_nil, List.append_nil, cellsL, Array.getElem?_toList] at hj
  have h0 : adr (some ⟨w.heap.size, 0, none⟩) j = ⟨w.heap.size, j, none⟩ := by simp [adr]
  have h1 := heap_alloc_new w (.cells u.cells e)
  rw [h0]
  unfold World.cell?
  rw [h1]
  simpa using hj
theorem st_append1 {t by_ : Nat} {z : Value} {arr : Array Value} {s x : Operand} (T : SliceT P t e sz by_ z) (hzs : z.cells.size = sz) (hR : Elem R sz) (hbase : base <= w.heap.size) (hX : ∀ k, X k = true -> k < w.heap.size)
    (hs : a.eval s = .slice ao l.length cap) (hx : a.eval x = .slice (some ⟨w.heap.size, 0, none⟩) 1 1) (h : OL R sz X base e w ao cap l)
    (u : Value) (y : α) (harr : arr = u.cells) (hu : R (mk (un X ao) w) u y) (hroom : (l.length + 1) * by_ <= 140737488355328) (hmax : l.length + 1 <= 9223372036854775807)
    (K : ∀ ao' cap' w', OL R sz X base e w' ao' cap' (l ++ [y]) -> ExtX (ob ao) w w' -> (ao' = ao \/ ∃ g, ao' = some ⟨g, 0, none⟩ /\ w.heap.size <= g) -> wpList P ops Q rest (a.put d (.slice ao' (l ++ [y]).length cap')) w') :
    wpList P ops Q (⟨d, .call { callee := .builtin .append, args := #[s, x], argTypes := #[t, t] }, ty, ps, af, none⟩ :: rest) a (w.alloc (.cells arr e)) := by
  refine wpList_plain rfl fun K' hK' => ?_
  have hE : Ext w (w.alloc (.cells arr e)) := (ExtX.refl w).alloc _
  have hsz : w.heap.size + 1 = (w.alloc (.cells arr e)).heap.size := by simp
  obtain ⟨ao', cap', w', hr, h2, h3, h4⟩ := (h.ext0 hR hE).run_append (P := P) T hzs hR (by omega) (fun k hk => by have := hX k hk; omega) (some ⟨w.heap.size, 0, none⟩) 1 [u] [y] (at_new w arr e u harr) rfl
    (fun i hi _ => by have : i = 0 := by simpa using hi
                      subst this; exact hR.mono _ _ _ _ (mk_ext hE) hu) (by simpa using hroom) (by simpa using hmax) ty
  unfold Oper.wp execOp
  simp only [resolve, invoke, builtin, Sem.run_bind, Sem.run_pure, Result.andThen_ok, List.map_toArray, List.map_cons, List.map_nil, hs, hx]
  rw [show ([y] : List α).length = 1 from rfl] at hr
  rw [hr]
  refine hK' _ _ (K ao' cap' w' h2 ((ExtX.of hE).trans h3) ?_)
  rcases h4 with h4 | ⟨g, h4, h5⟩
  · exact .inl h4
  · exact .inr ⟨g, h4, by omega⟩
theorem st_appendl {t by_ : Nat} {z : Value} {s x : Operand} {asl : Option Addr} {cs : Nat} (T : SliceT P t e sz by_ z) (hzs : z.cells.size = sz) (hR : Elem R sz) (hbase : base <= w.heap.size) (hX : ∀ k, X k = true -> k < w.heap.size)
    (xs : List α) (hs : a.eval s = .slice ao l.length cap) (hx : a.eval x = .slice asl xs.length cs) (h : OL R sz X base e w ao cap l)
    (hxs : Sl R sz (mk (un X ao) w) asl xs) (hroom : (l.length + xs.length) * by_ <= 140737488355328) (hmax : l.length + xs.length <= 9223372036854775807)
    (K : ∀ ao' cap' w', OL R sz X base e w' ao' cap' (l ++ xs) -> ExtX (ob ao) w w' -> (ao' = ao \/ ∃ g, ao' = some ⟨g, 0, none⟩ /\ w.heap.size <= g) -> wpList P ops Q rest (a.put d (.slice ao' (l ++ xs).length cap')) w') :
    wpList P ops Q (⟨d, .call { callee := .builtin .append, args := #[s, x], argTypes := #[t, t] }, ty, ps, af, none⟩ :: rest) a w := by
  refine wpList_plain rfl fun K' hK' => ?_
  obtain ⟨us, h1, h2, h3⟩ := hxs.at_ hR
  obtain ⟨ao', cap', w', hr, h2, h3, h4⟩ := h.run_append (P := P) T hzs hR hbase hX asl cs us xs h2 h1 h3 hroom hmax ty
  unfold Oper.wp execOp
  simp only [resolve, invoke, builtin, Sem.run_bind, Sem.run_pure, Result.andThen_ok, List.map_toArray, List.map_cons, List.map_nil, hs, hx, hr]
  exact hK' _ _ (K ao' cap' w' h2 h3 h4)
theorem st_make {t by_ : Nat} {z : Value} {x y : Operand} {kl kc : IntKind} {m : Int} (T : SliceT P t e sz by_ z) (hR : Elem R sz) (x0 : α) (hz : ∀ h, R h z x0) (X : Nat -> Bool) (hX : ∀ k, X k = true -> k < w.heap.size) (base : Nat) (hbase : base <= w.heap.size)
    (n : Nat) (hl : a.eval x = .int kl m) (hc : a.eval y = .int kc m) (hm : m = (n : Int)) (hroom : by_ * n <= 281474976710656) (hmax : n <= 9223372036854775807)
    (K : ∀ ao w', OL R sz X base e w' ao n (List.replicate n x0) -> Ext w w' -> wpList P ops Q rest (a.put d (.slice ao n n)) w') :
    wpList P ops Q (⟨d, .makeSlice t x y, ty, ps, af, none⟩ :: rest) a w := by
  refine wpList_plain rfl fun K' hK' => ?_
  subst hm
  obtain ⟨ao, w', hr, h2, h3⟩ := OL.run_make (P := P) T hR x0 hz hX hbase kl kc n hroom hmax
  unfold Oper.wp
  simp [execOp, hl, hc, hr, Result.andThen]
  exact hK' _ _ (K ao w' h2 h3)
theorem st_store {t : TypeId} {x y : Operand} {k : Nat} (hT : TyI P t sz) (hR : Elem R sz) (i : Nat) (hx : a.eval x = .pointer (some (adr ao k))) (hk : k = i * sz)
    (h : OL R sz X base e w ao cap l) (hi : i < l.length) (u : Value) (v : α) (hy : a.eval y = u) (hu : R (mk (un X ao) w) u v)
    (K : ∀ w', OL R sz X base e w' ao cap (l.set i v) -> ExtX (ob ao) w w' -> wpList P ops Q rest (a.put d undef) w') :
    wpList P ops Q (⟨d, .store t x y, ty, ps, af, none⟩ :: rest) a w := by
  refine wpList_plain rfl fun K' hK' => ?_
  subst hk
  obtain ⟨ti, ht, hts⟩ := hT
  obtain ⟨w', hr, h2, h3⟩ := h.run_store (P := P) ht hts hR i hi u v hu
  unfold Oper.wp
  simp [execOp, hx, hy, Instr.storeAt, Instr.sureAddr, hr, Result.andThen]
  exact hK' _ _ (K w' h2 h3)
def subAddr (ao : Option Addr) (i m sz : Nat) : Option Addr := if m = i then ao else ao.map (·.add (i * sz))
theorem Sl.sub {h : Mem} (s : Sl R sz h ao l) (i j m : Nat) (hij : i <= j) (hjm : j <= m) (hjl : j <= l.length) : Sl R sz h (subAddr ao i m sz) ((l.take j).drop i) := by
  refine ⟨fun hn => ?_, fun k hk => ?_⟩
  · simp at hn
    obtain ⟨b, off, rfl⟩ := s.1 (by omega)
    have hm : ¬ m = i := by omega
    simp [subAddr, hm, Addr.add_lit]
  · simp at hk
    obtain ⟨b, off, rfl⟩ := s.1 (by omega)
    have hm : ¬ m = i := by omega
    obtain ⟨u, h1, h2, h3⟩ := s.2 (i + k) (by omega)
    refine ⟨u, h1, fun q hq => ?_, by simpa using h3⟩
    have := h2 q hq
    simp only [subAddr, hm, if_false, Option.map_some, Addr.add_lit, adr, Option.getD_some] at this |-
    rw [<- this, Nat.add_mul]
    congr 2
    omega
theorem run_slice_i {t by_ : Nat} {z : Value} (T : SliceT P t e sz by_ z) (len cap : Nat) (k1 : IntKind) (i : Nat) (h1 : i <= len) (_h2 : len <= cap) (w : World) :
    (Instr.sliceAt t (.slice ao len cap) (some (.int k1 (i : Int))) none none).run P w = .ok (.slice (subAddr ao i cap sz) (len - i) (cap - i)) w := by
  obtain ⟨ti, hi, hz, hsz, hby⟩ := info_parts T.info
  have h1' : (i : Int) <= len := by omega
  simp [Instr.sliceAt, Instr.slice, run_underlying T.und, Instr.sliceBounds, run_sliceBound, h1', sizeOf, typeInfo, hi, hsz, subAddr]
theorem run_slice_ij {t by_ : Nat} {z : Value} (T : SliceT P t e sz by_ z) (len cap : Nat) (k1 k2 : IntKind) (i j : Nat) (h1 : i <= j) (h2 : j <= cap) (w : World) :
    (Instr.sliceAt t (.slice ao len cap) (some (.int k1 (i : Int))) (some (.int k2 (j : Int))) none).run P w = .ok (.slice (subAddr ao i cap sz) (j - i) (cap - i)) w := by
  obtain ⟨ti, hi, hz, hsz, hby⟩ := info_parts T.info
  have h1' : (i : Int) <= j := by omega
  have h2' : (j : Int) <= cap := by omega
  simp [Instr.sliceAt, Instr.slice, run_underlying T.und, Instr.sliceBounds, run_sliceBound, h1', h2', sizeOf, typeInfo, hi, hsz, subAddr]
theorem st_storeNat {t : TypeId} {x y : Operand} {k : Nat} {kd : IntKind} {l : List Nat} {m : Int} (hT : TyI P t 1) (i : Nat) (v : Nat) (hx : a.eval x = .pointer (some (adr ao k))) (hk : k = i)
    (h : OL (NatIn kd) 1 X base e w ao cap l) (hi : i < l.length) (hy : a.eval y = .int kd m) (hm : m = (v : Int))
    (K : ∀ w', OL (NatIn kd) 1 X base e w' ao cap (l.set i v) -> ExtX (ob ao) w w' -> wpList P ops Q rest (a.put d undef) w') :
    wpList P ops Q (⟨d, .store t x y, ty, ps, af, none⟩ :: rest) a w :=
  st_store hT (NatIn.elem kd) i hx (by omega) h hi (.int kd m) v hy (by rw [hm]; rfl) K
theorem OL.set1 {t : TypeId} (hT : TyI P t 1) (hR : Elem R 1) (h1c : OneCell R) (h : OL R 1 X base e w ao cap l) (i : Nat) (hi : i < l.length) (u : Value) (x : α) (hu : R (mk (un X ao) w) u x) :
    OL R 1 X base e (w.setCell (adr ao i) u) ao cap (l.set i x) /\ ExtX (ob ao) w (w.setCell (adr ao i) u) := by
  obtain ⟨ti, ht, hts⟩ := hT
  obtain ⟨v, hc, hf, _⟩ := h.cell h1c i hi
  obtain ⟨w', hr, h2, h3⟩ := h.run_store (P := P) ht hts hR i hi u x hu
  have hcells := h1c _ _ _ hu
  have hone := hR.one _ _ _ hu u (by simp [cellsL, hcells])
  rw [Nat.mul_one] at hr
  have hw : w' = w.setCell (adr ao i) u := by
    simp only [storeVar, sizeOf, typeInfo, Sem.run_bind] at hr
    cases u <;> simp [Value.oneCell'] at hone <;> simp [program, Sem.run, ht, hts, Result.andThen, Value.cells, storeCells, store, Addr.add_zero', hc, hf] at hr <;> exact hr.symm
  subst hw
  exact ⟨h2, h3⟩
end
end Go.Rep
namespace Go.Proofs.YtnnpfhoigmegcaaGreat
open Go.RowKit Go.Rep
theorem slU32 : SliceT Tryz.prog 37 110 1 4 (.int .u32 0) := ⟨Tryz.underlying37, by kernel_rfl⟩
theorem slInt : SliceT Tryz.prog 22 3 1 8 (.int .i64 0) := ⟨Tryz.underlying22, by kernel_rfl⟩
theorem infU32 : (Tryz.prog.info? 110).map (fun i => (i.zero, i.size, i.bytes)) = some (some (.int .u32 0), 1, 4) := by kernel_rfl
theorem tyU32 : TyI Tryz.prog 110 1 := let ⟨i, h, _, h2, _⟩ := info_parts infU32; ⟨i, h, h2⟩
end Go.Proofs.YtnnpfhoigmegcaaGreat
