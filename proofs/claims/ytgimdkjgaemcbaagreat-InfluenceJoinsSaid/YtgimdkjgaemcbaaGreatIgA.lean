/- Parts of a proof: each theorem states what it proves, and its conditions. -/
import Derived.WalkKit
import Derived.WalkSpells
import Derived.WalkLawsBesides
import Derived.Deep.DeepCutAuto
namespace Go.Lin
def sm : Nat -> (Nat -> Rat) -> Rat
  | 0, _ => 0
  | n + 1, f => sm n f + f n
theorem sm_congr {n : Nat} {f g : Nat -> Rat} (h : ∀ i, i < n -> f i = g i) : sm n f = sm n g := by
  induction n with
  | zero => rfl
  | succ n ih => unfold sm; rw [ih fun i hi => h i (by omega), h n (by omega)]
theorem sm_zero {n : Nat} {f : Nat -> Rat} (h : ∀ i, i < n -> f i = 0) : sm n f = 0 := by
  induction n with
  | zero => rfl
  | succ n ih => unfold sm; rw [ih fun i hi => h i (by omega), h n (by omega)]; grind
theorem sm_add (n : Nat) (f g : Nat -> Rat) : sm n (fun i => f i + g i) = sm n f + sm n g := by
  induction n with
  | zero => unfold sm; grind
  | succ n ih => unfold sm; rw [ih]; grind
theorem sm_mul (n : Nat) (a : Rat) (f : Nat -> Rat) : sm n (fun i => a * f i) = a * sm n f := by
  induction n with
  | zero => unfold sm; grind
  | succ n ih => unfold sm; rw [ih]; grind
theorem sm_comm (n m : Nat) (f : Nat -> Nat -> Rat) : sm n (fun i => sm m (fun j => f i j)) = sm m (fun j => sm n (fun i => f i j)) := by
  induction n with
  | zero => simp only [sm]; rw [sm_zero]; intros; rfl
  | succ n ih => simp only [sm]; rw [ih, sm_add]
theorem sm_one {n : Nat} {f : Nat -> Rat} (k : Nat) (hk : k < n) (h : ∀ i, i < n -> i ≠ k -> f i = 0) : sm n f = f k := by
  induction n with
  | zero => omega
  | succ n ih =>
    unfold sm
    by_cases e : k = n
    · subst e; rw [sm_zero fun i hi => h i (by omega) (by omega)]; grind
    · rw [ih (by omega) fun i hi hik => h i (by omega) hik, h n (by omega) (by omega)]; grind
theorem sm_sub (n : Nat) (f g : Nat -> Rat) : sm n (fun i => f i - g i) = sm n f - sm n g := by
  induction n with
  | zero => unfold sm; grind
  | succ n ih => unfold sm; rw [ih]; grind
theorem sm_one' {n : Nat} {f g : Nat -> Rat} (k : Nat) (hk : k < n) (h : ∀ i, i < n -> i ≠ k -> f i = g i) (h2 : f k = g k) : sm n f = sm n g :=
  sm_congr fun i hi => by by_cases e : i = k
                          · subst e; exact h2
                          · exact h i hi e
theorem sm_two {n : Nat} {f g : Nat -> Rat} (i k : Nat) (hi : i < n) (hk : k < n) (hik : i ≠ k) (h : ∀ r, r < n -> r ≠ i -> r ≠ k -> f r = g r) (h2 : f i + f k = g i + g k) : sm n f = sm n g := by
  have e : sm n (fun r => f r - g r) = 0 := by
    have e1 : ∀ r, r < n -> (fun r => f r - g r) r = (fun r => (if r = i then f i - g i else 0) + (if r = k then f k - g k else 0)) r := by
      intro r hr
      show f r - g r = _
      by_cases a : r = i
      · subst a; simp [hik]; grind
      · by_cases b : r = k
        · subst b; simp [a]; grind
        · simp [a, b]; rw [h r hr a b]; grind
    rw [sm_congr e1, sm_add, sm_one i hi (fun r _ hr => by simp [hr]), sm_one k hk (fun r _ hr => by simp [hr])]
    simp; grind
  rw [sm_sub] at e; grind
abbrev F2 := Nat -> Nat -> Rat
def Eqm (n c : Nat) (f g : F2) : Prop := ∀ i, i < n -> ∀ j, j < c -> f i j = g i j
def Nul (n c : Nat) (f : F2) (x : Nat -> Rat) : Prop := ∀ i, i < n -> sm c (fun j => f i j * x j) = 0
inductive RE (n c : Nat) : F2 -> F2 -> Rat -> Prop
  | same {f g : F2} (h : Eqm n c f g) : RE n c f g 1
  | swap {f g : F2} (i k : Nat) (hi : i < n) (hk : k < n) (hik : i ≠ k) (h1 : ∀ j, j < c -> g i j = f k j) (h2 : ∀ j, j < c -> g k j = f i j) (h3 : ∀ r, r < n -> r ≠ i -> r ≠ k -> ∀ j, j < c -> g r j = f r j) : RE n c f g (-1)
  | scale {f g : F2} (i : Nat) (a : Rat) (hi : i < n) (ha : a ≠ 0) (h1 : ∀ j, j < c -> g i j = a * f i j) (h3 : ∀ r, r < n -> r ≠ i -> ∀ j, j < c -> g r j = f r j) : RE n c f g a
  | add {f g : F2} (i k : Nat) (a : Rat) (hi : i < n) (hk : k < n) (hik : i ≠ k) (h1 : ∀ j, j < c -> g i j = f i j + a * f k j) (h3 : ∀ r, r < n -> r ≠ i -> ∀ j, j < c -> g r j = f r j) : RE n c f g 1
  | trans {f g h : F2} {a b : Rat} (h1 : RE n c f g a) (h2 : RE n c g h b) : RE n c f h (a * b)
theorem RE.ne {n c : Nat} {f g : F2} {d : Rat} (h : RE n c f g d) : d ≠ 0 := by
  induction h with
  | same => grind
  | swap => grind
  | scale => assumption
  | add => grind
  | trans _ _ ih1 ih2 => intro e; rcases Rat.mul_eq_zero.1 e with h | h <;> contradiction
theorem RE.nul {n c : Nat} {f g : F2} {d : Rat} (h : RE n c f g d) (x : Nat -> Rat) : Nul n c f x ↔ Nul n c g x := by
  induction h with
  | same h => 
    constructor
    · intro hn i hi; rw [<- hn i hi]; exact sm_congr fun j hj => by rw [h i hi j hj]
    · intro hn i hi; rw [<- hn i hi]; exact sm_congr fun j hj => by rw [h i hi j hj]
  | swap i k hi hk hik h1 h2 h3 =>
    constructor
    · intro hn r hr
      by_cases a : r = i
      · subst a; rw [<- hn k hk]; exact sm_congr fun j hj => by rw [h1 j hj]
      · by_cases b : r = k
        · subst b; rw [<- hn i hi]; exact sm_congr fun j hj => by rw [h2 j hj]
        · rw [<- hn r hr]; exact sm_congr fun j hj => by rw [h3 r hr a b j hj]
    · intro hn r hr
      by_cases a : r = i
      · subst a; rw [<- hn k hk]; exact sm_congr fun j hj => by rw [h2 j hj]
      · by_cases b : r = k
        · subst b; rw [<- hn i hi]; exact sm_congr fun j hj => by rw [h1 j hj]
        · rw [<- hn r hr]; exact sm_congr fun j hj => by rw [h3 r hr a b j hj]
  | @scale f g i a hi ha h1 h3 =>
    have key : sm c (fun j => g i j * x j) = a * sm c (fun j => f i j * x j) := by
      rw [<- sm_mul]; exact sm_congr fun j hj => by rw [h1 j hj]; grind
    constructor
    · intro hn r hr
      by_cases e : r = i
      · subst e; rw [key, hn r hr]; grind
      · rw [<- hn r hr]; exact sm_congr fun j hj => by rw [h3 r hr e j hj]
    · intro hn r hr
      by_cases e : r = i
      · subst e; have := hn r hr; rw [key] at this; rcases Rat.mul_eq_zero.1 this with h | h
        · contradiction
        · exact h
      · rw [<- hn r hr]; exact sm_congr fun j hj => by rw [h3 r hr e j hj]
  | @add f g i k a hi hk hik h1 h3 =>
    have key : sm c (fun j => g i j * x j) = sm c (fun j => f i j * x j) + a * sm c (fun j => f k j * x j) := by
      rw [<- sm_mul, <- sm_add]; exact sm_congr fun j hj => by rw [h1 j hj]; grind
    constructor
    · intro hn r hr
      by_cases e : r = i
      · subst e; rw [key, hn r hr, hn k hk]; grind
      · rw [<- hn r hr]; exact sm_congr fun j hj => by rw [h3 r hr e j hj]
    · intro hn r hr
      by_cases e : r = i
      · subst e
        have h4 := hn r hr; rw [key] at h4
        have h5 := hn k hk
        rw [show sm c (fun j => g k j * x j) = sm c (fun j => f k j * x j) from sm_congr fun j hj => by rw [h3 k hk (by omega) j hj]] at h5
        rw [h5] at h4; grind
      · rw [<- hn r hr]; exact sm_congr fun j hj => by rw [h3 r hr e j hj]
  | trans _ _ ih1 ih2 => exact ih1.trans ih2
def cmb (n : Nat) (f : F2) (y : Nat -> Rat) (j : Nat) : Rat := sm n fun i => y i * f i j
def LI (n c : Nat) (f : F2) : Prop := ∀ y : Nat -> Rat, (∀ j, j < c -> cmb n f y j = 0) -> ∀ i, i < n -> y i = 0
theorem RE.li {n c : Nat} {f g : F2} {d : Rat} (h : RE n c f g d) (hf : LI n c f) : LI n c g := by
  induction h with
  | same h => 
    intro y hy
    exact hf y fun j hj => by rw [<- hy j hj]; exact sm_congr fun i hi => by rw [h i hi j hj]
  | @swap f g i k hi hk hik h1 h2 h3 =>
    intro y hy
    have := hf (fun r => if r = i then y k else if r = k then y i else y r) fun j hj => by
      rw [<- hy j hj]
      refine sm_two i k hi hk hik (fun r hr a b => ?_) ?_
      · simp [a, b, h3 r hr a b j hj]
      · simp [hik.symm, h1 j hj, h2 j hj]; grind
    intro r hr
    by_cases a : r = i
    · subst a; simpa [hik.symm] using this k hk
    · by_cases b : r = k
      · subst b; simpa using this i hi
      · simpa [a, b] using this r hr
  | @scale f g i a hi ha h1 h3 =>
    intro y hy
    have := hf (fun r => if r = i then a * y i else y r) fun j hj => by
      rw [<- hy j hj]
      refine sm_one' i hi (fun r hr e => ?_) ?_
      · simp [e, h3 r hr e j hj]
      · simp [h1 j hj]; grind
    intro r hr
    by_cases e : r = i
    · subst e
      have h4 := this r hr
      simp only [if_true] at h4
      rcases Rat.mul_eq_zero.1 h4 with h4 | h4
      · contradiction
      · exact h4
    · simpa [e] using this r hr
  | @add f g i k a hi hk hik h1 h3 =>
    intro y hy
    have := hf (fun r => if r = k then y k + a * y i else y r) fun j hj => by
      rw [<- hy j hj]
      refine sm_two i k hi hk hik (fun r hr a b => ?_) ?_
      · simp [b, h3 r hr a j hj]
      · simp [hik, h1 j hj, h3 k hk hik.symm j hj]; grind
    intro r hr
    have hyi : y i = 0 := by simpa [hik] using this i hi
    by_cases e : r = k
    · subst e
      have h4 := this r hr
      simp [hyi] at h4; grind
    · simpa [e] using this r hr
  | trans _ _ ih1 ih2 => exact ih2 (ih1 hf)
structure Rref (n c : Nat) (f : F2) (p : List Nat) : Prop where
  le : p.length <= n
  lt : ∀ i (hi : i < p.length), p[i] < c
  inc : ∀ i k (hik : i < k) (hk : k < p.length), p[i] < p[k]
  left : ∀ i (hi : i < p.length), ∀ j, j < p[i] -> f i j = 0
  one : ∀ i (hi : i < p.length), f i p[i] = 1
  zero : ∀ k (hk : k < p.length), ∀ i, i < n -> i ≠ k -> f i p[k] = 0
  below : ∀ i, p.length <= i -> i < n -> ∀ j, j < c -> f i j = 0
def nv (f : F2) (p : List Nat) (j : Nat) : Nat -> Rat := fun x => if x = j then 1 else match p.findIdx? (· == x) with | some i => - f i j | none => 0
theorem Rref.idx {n c : Nat} {f : F2} {p : List Nat} (h : Rref n c f p) (i : Nat) (hi : i < p.length) : p.findIdx? (· == p[i]) = some i := by
  rw [List.findIdx?_eq_some_iff_getElem]
  refine ⟨hi, by simp, fun j hj => ?_⟩
  have := h.inc j i hj hi
  simp; omega
theorem idx_none {p : List Nat} {x : Nat} (h : x ∉ p) : p.findIdx? (· == x) = none := by
  rw [List.findIdx?_eq_none_iff]; intro y hy; simp; rintro rfl; exact h hy
theorem Rref.nv_piv {n c : Nat} {f : F2} {p : List Nat} (h : Rref n c f p) {j : Nat} (hj : j ∉ p) (i : Nat) (hi : i < p.length) : nv f p j p[i] = - f i j := by
  unfold nv
  rw [if_neg (by rintro e; exact hj (e ▸ List.getElem_mem _)), h.idx i hi]
theorem nv_self {f : F2} {p : List Nat} (j : Nat) : nv f p j j = 1 := by simp [nv]
theorem nv_free {f : F2} {p : List Nat} {j x : Nat} (hx : x ∉ p) (hj : x ≠ j) : nv f p j x = 0 := by
  unfold nv; rw [if_neg hj, idx_none hx]
theorem Rref.row {n c : Nat} {f : F2} {p : List Nat} (h : Rref n c f p) (i : Nat) (hi : i < p.length) (x : Nat -> Rat) : sm c (fun j => f i j * x j) = x p[i] + sm c (fun j => if j ∈ p then 0 else f i j * x j) := by
  have e : sm c (fun j => f i j * x j) = sm c (fun j => (if j = p[i] then x p[i] else 0) + (if j ∈ p then 0 else f i j * x j)) := by
    refine sm_congr fun j hj => ?_
    by_cases hp : j ∈ p
    · obtain ⟨k, hk, rfl⟩ := List.getElem_of_mem hp
      by_cases hki : i = k
      · subst hki; simp [h.one i hi]; grind
      · have hne : p[k] ≠ p[i] := by
          rcases Nat.lt_or_gt_of_ne hki with a | a
          · have := h.inc i k a hk; omega
          · have := h.inc k i a hi; omega
        simp [hne, h.zero k hk i (Nat.lt_of_lt_of_le hi h.le) hki]; grind
    · have hne : j ≠ p[i] := by rintro rfl; exact hp (List.getElem_mem _)
      simp [hp, hne]; grind
  rw [e, sm_add, sm_one p[i] (h.lt i hi) (fun j _ hj => by simp [hj])]
  simp
theorem Rref.nv_nul {n c : Nat} {f : F2} {p : List Nat} (h : Rref n c f p) {j : Nat} (hj : j ∉ p) (hjc : j < c) : Nul n c f (nv f p j) := by
  intro i hi
  by_cases hip : i < p.length
  · rw [h.row i hip, h.nv_piv hj i hip, sm_one j hjc]
    · simp [hj, nv_self]; grind
    · intro k _ hkj
      by_cases hp : k ∈ p
      · simp [hp]
      · simp [hp, nv_free hp hkj]
  · exact sm_zero fun k hk => by rw [h.below i (by omega) hi k hk]; grind
theorem Rref.nv_supp {n c : Nat} {f : F2} {p : List Nat} (h : Rref n c f p) {j : Nat} (hj : j ∉ p) {x : Nat} (hx : j < x) : nv f p j x = 0 := by
  by_cases hp : x ∈ p
  · obtain ⟨k, hk, rfl⟩ := List.getElem_of_mem hp
    rw [h.nv_piv hj k hk, h.left k hk j hx]; grind
  · exact nv_free hp (by omega)
theorem Rref.sub {n c : Nat} {f g : F2} {p q : List Nat} (hf : Rref n c f p) (hg : Rref n c g q) (hn : ∀ x, Nul n c f x -> Nul n c g x) (j : Nat) (hj : j ∈ q) : j ∈ p := by
  refine Classical.byContradiction fun hjp => ?_
  obtain ⟨k, hk, rfl⟩ := List.getElem_of_mem hj
  have h1 := hn _ (hf.nv_nul hjp (hg.lt k hk)) k (Nat.lt_of_lt_of_le hk hg.le)
  rw [sm_one q[k] (hg.lt k hk)] at h1
  · rw [hg.one k hk, nv_self] at h1; grind
  · intro x _ hx
    rcases Nat.lt_or_gt_of_ne hx with a | a
    · rw [hg.left k hk x a]; grind
    · rw [hf.nv_supp hjp a]; grind
theorem inc_eq : ∀ (p q : List Nat), p.Pairwise (· < ·) -> q.Pairwise (· < ·) -> (∀ x, x ∈ p ↔ x ∈ q) -> p = q
  | [], [], _, _, _ => rfl
  | [], b :: q, _, _, h => by have := (h b).2 (by simp); simp at this
  | a :: p, [], _, _, h => by have := (h a).1 (by simp); simp at this
  | a :: p, b :: q, hp, hq, h => by
    rw [List.pairwise_cons] at hp hq
    have hab : a = b := by
      have h1 := (h a).1 (by simp)
      have h2 := (h b).2 (by simp)
      simp at h1 h2
      rcases h1 with h1 | h1
      · exact h1
      · rcases h2 with h2 | h2
        · exact h2.symm
        · have := hq.1 a h1; have := hp.1 b h2; omega
    subst hab
    rw [inc_eq p q hp.2 hq.2]
    intro x
    have h3 := h x
    simp at h3
    constructor
    · intro hx
      have := hp.1 x hx
      rcases h3.1 (.inr hx) with e | e
      · omega
      · exact e
    · intro hx
      have := hq.1 x hx
      rcases h3.2 (.inr hx) with e | e
      · omega
      · exact e
theorem Rref.pw {n c : Nat} {f : F2} {p : List Nat} (h : Rref n c f p) : p.Pairwise (· < ·) := by
  rw [List.pairwise_iff_getElem]; intro i j hi hj hij; exact h.inc i j hij hj
theorem Rref.unique {n c : Nat} {f g : F2} {p q : List Nat} (hf : Rref n c f p) (hg : Rref n c g q) (hn : ∀ x, Nul n c f x ↔ Nul n c g x) : p = q /\ Eqm n c f g := by
  have hpq : p = q := inc_eq p q hf.pw hg.pw fun x => ⟨hg.sub hf (fun x h => (hn x).2 h) x, hf.sub hg (fun x h => (hn x).1 h) x⟩
  subst hpq
  refine ⟨rfl, fun i hi j hj => ?_⟩
  by_cases hip : i < p.length
  · by_cases hjp : j ∈ p
    · obtain ⟨k, hk, rfl⟩ := List.getElem_of_mem hjp
      by_cases e : i = k
      · subst e; rw [hf.one i hip, hg.one i hip]
      · rw [hf.zero k hk i hi e, hg.zero k hk i hi e]
    · have h1 := (hn _).1 (hf.nv_nul hjp hj) i hi
      rw [hg.row i hip, hf.nv_piv hjp i hip, sm_one j hj] at h1
      · simp [hjp, nv_self] at h1; grind
      · intro k _ hkj
        by_cases hp : k ∈ p
        · simp [hp]
        · simp [hp, nv_free hp hkj]
  · rw [hf.below i (by omega) hi j hj, hg.below i (by omega) hi j hj]
end Go.Lin
namespace Go.Lin
theorem RE.cast {n c : Nat} {f g : F2} {a b : Rat} (h : RE n c f g a) (e : a = b) : RE n c f g b := e ▸ h
theorem RE.then_ {n c : Nat} {f g h : F2} {a b d : Rat} (h1 : RE n c f g a) (h2 : RE n c g h b) (e : a * b = d) : RE n c f h d := e ▸ h1.trans h2
theorem RE.addmany {n c : Nat} {f g : F2} (k : Nat) (hk : k < n) (a : Nat -> Rat) (h1 : ∀ i, i < n -> i ≠ k -> ∀ j, j < c -> g i j = f i j + a i * f k j) (h2 : ∀ j, j < c -> g k j = f k j) : RE n c f g 1 := by
  have key : ∀ t, t <= n -> RE n c f (fun i j => if i < t then g i j else f i j) 1 := by
    intro t
    induction t with
    | zero => intro _; exact .same fun i _ j _ => by simp
    | succ t ih =>
      intro ht
      refine (ih (by omega)).then_ (b := 1) ?_ (by grind)
      by_cases e : t = k
      · subst e
        refine .same fun i hi j hj => ?_
        by_cases a : i < t
        · simp [a, show i < t + 1 by omega]
        · by_cases b : i = t
          · subst b; simp [h2 j hj]
          · simp [a, show ¬ i < t + 1 by omega]
      · refine .add t k (a t) (by omega) hk e (fun j hj => ?_) (fun r hr hrt j hj => ?_)
        · have h3 := h1 t (by omega) e j hj
          by_cases b : k < t
          · simp [b, h3, h2 j hj]
          · simp [b, h3]
        · by_cases a : r < t
          · simp [a, show r < t + 1 by omega]
          · simp [a, show ¬ r < t + 1 by omega]
  refine (key n (Nat.le_refl _)).then_ (.same fun i hi j hj => ?_) (by grind)
  simp [hi]
structure Ech (n k : Nat) (f : F2) (p : List Nat) : Prop where
  le : p.length <= n
  lt : ∀ i (hi : i < p.length), p[i] < k
  inc : ∀ i k (hik : i < k) (hk : k < p.length), p[i] < p[k]
  left : ∀ i (hi : i < p.length), ∀ j, j < p[i] -> f i j = 0
  piv : ∀ i (hi : i < p.length), f i p[i] ≠ 0
  below : ∀ i, p.length <= i -> i < n -> ∀ j, j < k -> f i j = 0
theorem Ech.nil (n : Nat) (f : F2) : Ech n 0 f [] := ⟨by simp, by simp, by simp, by simp, by simp, by intros; omega⟩
theorem Ech.skip {n k : Nat} {f : F2} {p : List Nat} (h : Ech n k f p) (hz : ∀ i, p.length <= i -> i < n -> f i k = 0) : Ech n (k + 1) f p :=
  ⟨h.le, fun i hi => Nat.lt_succ_of_lt (h.lt i hi), h.inc, h.left, h.piv, fun i hi hn j hj => by
    by_cases e : j = k
    · subst e; exact hz i hi hn
    · exact h.below i hi hn j (by omega)⟩
theorem push_lt {p : List Nat} {k : Nat} (h : ∀ i (hi : i < p.length), p[i] < k) (i : Nat) (hi : i < (p ++ [k]).length) : (p ++ [k])[i] < k + 1 := by
  rw [List.getElem_append]; split
  · have := h i (by assumption); omega
  · simp
theorem push_inc {p : List Nat} {c : Nat} (h : ∀ i (hi : i < p.length), p[i] < c) (h2 : ∀ i k (hik : i < k) (hk : k < p.length), p[i] < p[k]) (i k : Nat) (hik : i < k) (hk : k < (p ++ [c]).length) : (p ++ [c])[i] < (p ++ [c])[k] := by
  simp at hk
  rw [List.getElem_append, List.getElem_append]
  by_cases a : k < p.length
  · simp [a, show i < p.length by omega]; exact h2 i k hik a
  · simp [a, show i < p.length by omega]; exact h i (by omega)
theorem Ech.push {n k : Nat} {f g : F2} {p : List Nat} (h : Ech n k f p) (hp : p.length < n) (h0 : ∀ i, i < p.length -> ∀ j, g i j = f i j)
    (hz : ∀ i, p.length <= i -> i < n -> ∀ j, j < k -> g i j = 0) (hne : g p.length k ≠ 0) (hb : ∀ i, p.length < i -> i < n -> g i k = 0) : Ech n (k + 1) g (p ++ [k]) := by
  refine ⟨by simp; omega, push_lt h.lt, push_inc h.lt h.inc, fun i hi j hj => ?_, fun i hi => ?_, fun i hi hn j hj => ?_⟩
  · simp at hi
    rw [List.getElem_append] at hj
    by_cases a : i < p.length
    · simp [a] at hj; rw [h0 i a]; exact h.left i a j hj
    · simp [a] at hj; exact hz i (by omega) (by omega) j hj
  · simp at hi
    rw [List.getElem_append]
    by_cases a : i < p.length
    · simp only [a, dite_true]; rw [h0 i a]; exact h.piv i a
    · obtain rfl : i = p.length := by omega
      simpa using hne
  · simp at hi
    by_cases e : j = k
    · subst e; exact hb i (by omega) hn
    · exact hz i (by omega) hn j (by omega)
structure Red (n t : Nat) (f : F2) (p : List Nat) : Prop where
  one : ∀ i (hi : i < p.length), i < t -> f i p[i] = 1
  zero : ∀ k (hk : k < p.length), k < t -> ∀ i, i < n -> i ≠ k -> f i p[k] = 0
theorem Ech.rref {n c : Nat} {f : F2} {p : List Nat} (h : Ech n c f p) (hr : Red n p.length f p) : Rref n c f p :=
  ⟨h.le, h.lt, h.inc, h.left, fun i hi => hr.one i hi hi, fun k hk => hr.zero k hk hk, h.below⟩
theorem Ech.under {n c : Nat} {f : F2} {p : List Nat} (h : Ech n c f p) (k : Nat) (hk : k < p.length) (i : Nat) (hi : i < n) (hki : k < i) : f i p[k] = 0 := by
  by_cases a : i < p.length
  · exact h.left i a _ (h.inc k i hki a)
  · exact h.below i (by omega) hi _ (h.lt k hk)
theorem Red.step {n c t : Nat} {f g : F2} {p : List Nat} (h : Ech n c f p) (hr : Red n t f p) (ht : t < p.length) 
    (h1 : ∀ j, g t j = f t j / f t p[t]) (h2 : ∀ i, i < t -> ∀ j, g i j = f i j - f i p[t] * g t j) (h3 : ∀ i, t < i -> ∀ j, g i j = f i j) : Ech n c g p /\ Red n (t + 1) g p := by
  have hpv := h.piv t ht
  have hz : ∀ j, j < p[t] -> g t j = 0 := fun j hj => by rw [h1, h.left t ht j hj]; grind
  have hone : g t p[t] = 1 := by rw [h1]; grind
  refine ⟨⟨h.le, h.lt, h.inc, fun i hi j hj => ?_, fun i hi => ?_, fun i hi hn j hj => ?_⟩, ⟨fun i hi hit => ?_, fun k hk hkt i hi hik => ?_⟩⟩
  · rcases Nat.lt_trichotomy i t with a | a | a
    · rw [h2 i a, h.left i hi j hj, hz j (by have := h.inc i t a ht; omega)]; grind
    · subst a; exact hz j hj
    · rw [h3 i a]; exact h.left i hi j hj
  · rcases Nat.lt_trichotomy i t with a | a | a
    · rw [h2 i a, hz _ (h.inc i t a ht)]; have := h.piv i hi; grind
    · subst a; rw [hone]; grind
    · rw [h3 i a]; exact h.piv i hi
  · rw [h3 i (by omega)]; exact h.below i hi hn j hj
  · rcases Nat.lt_trichotomy i t with a | a | a
    · rw [h2 i a, hz _ (h.inc i t a ht), hr.one i hi a]; grind
    · subst a; exact hone
    · omega
  · rcases Nat.lt_trichotomy k t with b | b | b
    · have hzk : g t p[k] = 0 := hz _ (h.inc k t b ht)
      rcases Nat.lt_trichotomy i t with a | a | a
      · rw [h2 i a, hzk, hr.zero k hk b i hi hik]; grind
      · subst a; exact hzk
      · rw [h3 i a]; exact hr.zero k hk b i hi hik
    · subst b
      rcases Nat.lt_trichotomy i k with a | a | a
      · rw [h2 i a, hone]; grind
      · omega
      · rw [h3 i a]; exact h.under k hk i hi a
    · omega
theorem Rref.skip {n k : Nat} {f : F2} {p : List Nat} (h : Rref n k f p) (hz : ∀ i, p.length <= i -> i < n -> f i k = 0) : Rref n (k + 1) f p :=
  ⟨h.le, fun i hi => Nat.lt_succ_of_lt (h.lt i hi), h.inc, h.left, h.one, h.zero, fun i hi hn j hj => by
    by_cases e : j = k
    · subst e; exact hz i hi hn
    · exact h.below i hi hn j (by omega)⟩
theorem Rref.nil (n : Nat) (f : F2) : Rref n 0 f [] := ⟨by simp, by simp, by simp, by simp, by simp, by simp, by intros; omega⟩
theorem Rref.push {n k : Nat} {f g : F2} {p : List Nat} (h : Rref n k f p) (hp : p.length < n) (hne : f p.length k ≠ 0)
    (h1 : ∀ j, g p.length j = f p.length j * (1 / f p.length k)) (h2 : ∀ i, i < n -> i ≠ p.length -> ∀ j, g i j = f i j + g p.length j * - f i k) : Rref n (k + 1) g (p ++ [k]) := by
  have hz : ∀ j, j < k -> g p.length j = 0 := fun j hj => by rw [h1, h.below _ (Nat.le_refl _) hp j hj]; grind
  have hone : g p.length k = 1 := by rw [h1]; grind
  have hk0 : ∀ i, i < n -> i ≠ p.length -> g i k = 0 := fun i hi e => by rw [h2 i hi e, hone]; grind
  have hs : ∀ i, i < n -> ∀ j, j < k -> g i j = f i j := fun i hi j hj => by
    by_cases e : i = p.length
    · subst e; rw [hz j hj, h.below _ (Nat.le_refl _) hp j hj]
    · rw [h2 i hi e, hz j hj]; grind
  refine ⟨by simp; omega, push_lt h.lt, push_inc h.lt h.inc, fun i hi j hj => ?_, fun i hi => ?_, fun q hq i hi hiq => ?_, fun i hi hn j hj => ?_⟩
  · simp at hi
    rw [List.getElem_append] at hj
    by_cases a : i < p.length
    · simp [a] at hj; rw [hs i (by omega) j (by have := h.lt i a; omega)]; exact h.left i a j hj
    · simp [a] at hj; obtain rfl : i = p.length := by omega
      exact hz j hj
  · simp at hi
    rw [List.getElem_append]
    by_cases a : i < p.length
    · simp only [a, dite_true]; rw [hs i (by omega) _ (h.lt i a)]; exact h.one i a
    · obtain rfl : i = p.length := by omega
      simpa using hone
  · simp at hq
    rw [List.getElem_append]
    by_cases a : q < p.length
    · simp only [a, dite_true]; rw [hs i hi _ (h.lt q a)]; exact h.zero q a i hi hiq
    · obtain rfl : q = p.length := by omega
      simpa using hk0 i hi hiq
  · simp at hi
    by_cases e : j = k
    · subst e; exact hk0 i hn (by omega)
    · rw [hs i hn j (by omega)]; exact h.below i (by omega) hn j (by omega)
end Go.Lin
namespace Go.Lin
abbrev Mat := List (List Rat)
def ent (m : Mat) : F2 := fun i j => (m.getD i []).getD j 0
def Shp (n c : Nat) (m : Mat) : Prop := m.length = n /\ ∀ r ∈ m, r.length = c
theorem Shp.row {n c : Nat} {m : Mat} (h : Shp n c m) {i : Nat} (hi : i < n) : (m.getD i []).length = c := by
  have : i < m.length := by rw [h.1]; exact hi
  simp [List.getD_eq_getElem?_getD, this, h.2]
theorem ent_out {n c : Nat} {m : Mat} (h : Shp n c m) {i j : Nat} (hij : n <= i \/ c <= j) : ent m i j = 0 := by
  unfold ent
  by_cases hi : i < n
  · have := h.row hi
    rw [List.getD_eq_getElem?_getD, List.getElem?_eq_none (by omega)]; rfl
  · have := h.1
    rw [List.getD_eq_getElem?_getD (l := m), List.getElem?_eq_none (by omega)]; simp
theorem Shp.ext {n c : Nat} {m m' : Mat} (h : Shp n c m) (h' : Shp n c m') (he : Eqm n c (ent m) (ent m')) : m = m' := by
  refine List.ext_getElem (h.1.trans h'.1.symm) fun i h1 h2 => ?_
  have hl1 := h.2 _ (List.getElem_mem h1)
  have hl2 := h'.2 _ (List.getElem_mem h2)
  refine List.ext_getElem (hl1.trans hl2.symm) fun j h3 h4 => ?_
  have := he i (by rw [<- h.1]; exact h1) j (by omega)
  simpa [ent, List.getD_eq_getElem?_getD, h1, h2, h3, h4] using this
theorem Shp.set {n c : Nat} {m : Mat} (h : Shp n c m) (i : Nat) {r : List Rat} (hr : r.length = c) : Shp n c (m.set i r) := by
  refine ⟨by simp [h.1], fun x hx => ?_⟩
  rcases List.mem_or_eq_of_mem_set hx with a | a
  · exact h.2 _ a
  · rw [a]; exact hr
theorem ent_set {m : Mat} {i : Nat} {r : List Rat} (hi : i < m.length) (k j : Nat) : ent (m.set i r) k j = if k = i then r.getD j 0 else ent m k j := by
  unfold ent
  simp only [List.getD_eq_getElem?_getD, List.getElem?_set]
  by_cases e : k = i
  · subst e; simp [hi]
  · simp [e, Ne.symm e]
def rows (m : Mat) (f : Nat -> List Rat -> List Rat) : Mat := m.mapIdx f
theorem Shp.rows {n c : Nat} {m : Mat} (h : Shp n c m) {f : Nat -> List Rat -> List Rat} (hf : ∀ i, i < n -> ∀ r : List Rat, r.length = c -> (f i r).length = c) : Shp n c (rows m f) := by
  refine ⟨by simp [Lin.rows, h.1], fun x hx => ?_⟩
  obtain ⟨i, hi, rfl⟩ := List.getElem_of_mem hx
  simp only [Lin.rows, List.length_mapIdx, List.getElem_mapIdx] at hi |-
  exact hf i (by rw [<- h.1]; exact hi) _ (h.2 _ (List.getElem_mem _))
theorem ent_rows {m : Mat} {f : Nat -> List Rat -> List Rat} {i : Nat} (hi : i < m.length) (j : Nat) : ent (rows m f) i j = (f i (m.getD i [])).getD j 0 := by
  simp [ent, rows, List.getD_eq_getElem?_getD, hi]
def swapL (m : Mat) (i k : Nat) : Mat := (m.set i (m.getD k [])).set k (m.getD i [])
theorem Shp.swap {n c : Nat} {m : Mat} (h : Shp n c m) {i k : Nat} (hi : i < n) (hk : k < n) : Shp n c (swapL m i k) := (h.set i (h.row hk)).set k (h.row hi)
theorem ent_swap {n c : Nat} {m : Mat} (h : Shp n c m) {i k : Nat} (hi : i < n) (hk : k < n) (r j : Nat) : ent (swapL m i k) r j = if r = k then ent m i j else if r = i then ent m k j else ent m r j := by
  unfold swapL
  rw [ent_set (by simp [h.1, hk]), ent_set (by simp [h.1, hi])]; rfl
theorem swapL_self (m : Mat) (i : Nat) (hi : i < m.length) : swapL m i i = m := by
  unfold swapL
  simp [List.getD_eq_getElem?_getD, hi]
theorem re_swap {n c : Nat} {m : Mat} (h : Shp n c m) {i k : Nat} (hi : i < n) (hk : k < n) (hik : i ≠ k) : RE n c (ent m) (ent (swapL m i k)) (-1) :=
  .swap i k hi hk hik (fun j _ => by rw [ent_swap h hi hk]; simp [hik]) (fun j _ => by rw [ent_swap h hi hk]; simp) (fun r _ a b j _ => by rw [ent_swap h hi hk]; simp [a, b])
def elimL (row piv : List Rat) (col : Nat) : List Rat := List.zipWith (fun a x => a - (row.getD col 0 / piv.getD col 0) * x) row piv
theorem elimL_len (row piv : List Rat) (col : Nat) (h : row.length = piv.length) : (elimL row piv col).length = piv.length := by simp [elimL, h]
theorem elimL_get (row piv : List Rat) (col j : Nat) (h : row.length = piv.length) : (elimL row piv col).getD j 0 = row.getD j 0 - (row.getD col 0 / piv.getD col 0) * piv.getD j 0 := by
  unfold elimL
  simp only [List.getD_eq_getElem?_getD, List.getElem?_zipWith]
  by_cases hj : j < row.length
  · simp [hj, show j < piv.length by omega]
  · simp [show ¬ j < row.length by omega, show ¬ j < piv.length by omega]; grind
abbrev St := Mat × List Nat × Bool
def clear (m : Mat) (t col : Nat) (s : Nat) : Mat := rows m fun i r => if t < i /\ i < t + 1 + s then elimL r (m.getD t []) col else r
noncomputable def nzAt (m : Mat) (t col : Nat) : Option Nat := (m.drop t).findIdx? fun r => decide (r.getD col 0 ≠ 0)
noncomputable def eStep (s : St) (col : Nat) : St :=
  if s.2.1.length = s.1.length then s else
  match nzAt s.1 s.2.1.length col with
  | none => s
  | some k => (clear (swapL s.1 s.2.1.length (s.2.1.length + k)) s.2.1.length col s.1.length, s.2.1 ++ [col], s.2.2 != decide (k ≠ 0))
noncomputable def eN (m : Mat) : Nat -> St
  | 0 => (m, [], false)
  | k + 1 => eStep (eN m k) k
theorem Shp.clear {n c : Nat} {m : Mat} (h : Shp n c m) {t : Nat} (ht : t < n) (col s : Nat) : Shp n c (clear m t col s) :=
  h.rows fun i hi r hr => by
    split
    · rw [elimL_len _ _ _ (by rw [hr, h.row ht]), h.row ht]
    · exact hr
theorem ent_clear {n c : Nat} {m : Mat} (h : Shp n c m) {t : Nat} (ht : t < n) (col s i j : Nat) : ent (clear m t col s) i j = if t < i /\ i < t + 1 + s /\ i < n then ent m i j - (ent m i col / ent m t col) * ent m t j else ent m i j := by
  by_cases hi : i < n
  · unfold Lin.clear
    rw [ent_rows (by rw [h.1]; exact hi)]
    by_cases a : t < i /\ i < t + 1 + s
    · simp only [a, and_self, if_true, hi]
      rw [elimL_get _ _ _ _ (by rw [h.row hi, h.row ht])]; rfl
    · rw [if_neg a, if_neg (fun b => a ⟨b.1, b.2.1⟩)]; rfl
  · rw [ent_out (h.clear ht col s) (.inl (by omega)), if_neg (by omega), ent_out h (.inl (by omega))]
theorem re_clear {n c : Nat} {m : Mat} (h : Shp n c m) {t : Nat} (ht : t < n) (col s : Nat) : RE n c (ent m) (ent (clear m t col s)) 1 :=
  .addmany t ht (fun i => if t < i /\ i < t + 1 + s /\ i < n then - (ent m i col / ent m t col) else 0)
    (fun i hi e j hj => by rw [ent_clear h ht]; split <;> grind) (fun j hj => by rw [ent_clear h ht]; simp)
theorem nzAt_none {m : Mat} {t col : Nat} (h : nzAt m t col = none) (i : Nat) (hi : t <= i) : ent m i col = 0 := by
  unfold nzAt at h
  rw [List.findIdx?_eq_none_iff] at h
  by_cases a : i < m.length
  · have := h (m[i]) (by rw [List.mem_drop_iff_getElem]; exact ⟨i - t, by omega, by congr 1; omega⟩)
    unfold ent; simp only [List.getD_eq_getElem?_getD, a, getElem?_pos, Option.getD_some] at this |-
    simpa using this
  · unfold ent; rw [List.getD_eq_getElem?_getD (l := m), List.getElem?_eq_none (by omega)]; simp
theorem nzAt_some {m : Mat} {t col k : Nat} (h : nzAt m t col = some k) : t + k < m.length /\ ent m (t + k) col ≠ 0 := by
  unfold nzAt at h
  rw [List.findIdx?_eq_some_iff_getElem] at h
  obtain ⟨h1, h2, _⟩ := h
  simp at h1
  refine ⟨by omega, ?_⟩
  unfold ent
  simp only [List.getElem_drop] at h2
  have a : t + k < m.length := by omega
  simp only [List.getD_eq_getElem?_getD, a, getElem?_pos, Option.getD_some] at h2 |-
  simpa using h2
structure EOk (n c k : Nat) (m : Mat) (s : St) : Prop where
  shp : Shp n c s.1
  ech : Ech n k (ent s.1) s.2.1
  re : RE n c (ent m) (ent s.1) (if s.2.2 then -1 else 1)
theorem EOk.zero {n c : Nat} {m : Mat} (h : Shp n c m) : EOk n c 0 m (m, [], false) := ⟨h, Ech.nil _ _, .same fun _ _ _ _ => rfl⟩
theorem EOk.step {n c k : Nat} {m : Mat} {s : St} (h : EOk n c k m s) : EOk n c (k + 1) m (eStep s k) := by
  obtain ⟨M, p, odd⟩ := s
  have hs : Shp n c M := h.shp
  have he : Ech n k (ent M) p := h.ech
  have hr : RE n c (ent m) (ent M) (if odd then -1 else 1) := h.re
  have hl := hs.1
  unfold eStep
  dsimp only
  split
  · rename_i e
    exact ⟨hs, he.skip fun i hi hn => by omega, hr⟩
  · rename_i e
    split
    · rename_i hz
      exact ⟨hs, he.skip fun i hi _ => nzAt_none hz i hi, hr⟩
    · rename_i q hz
      obtain ⟨h1, h2⟩ := nzAt_some hz
      have hp : p.length < n := by have := he.le; omega
      have hpq : p.length + q < n := by omega
      have hs2 := hs.swap hp hpq
      have hes := fun i j => ent_swap hs hp hpq i j
      have hec := fun i j => ent_clear hs2 hp k M.length i j
      have hpiv : ent (swapL M p.length (p.length + q)) p.length k ≠ 0 := by
        rw [hes]; by_cases b : q = 0
        · subst b; simpa using h2
        · simp [b]; exact h2
      refine ⟨hs2.clear hp _ _, he.push hp (fun i hi j => ?_) (fun i hi hn j hj => ?_) ?_ (fun i hi hn => ?_), ?_⟩
      · rw [hec, if_neg (by omega), hes, if_neg (by omega), if_neg (by omega)]
      · have hz : ∀ i, p.length <= i -> i < n -> ent (swapL M p.length (p.length + q)) i j = 0 := fun i hi hn => by
          rw [hes]; split
          · exact he.below _ (by omega) hp j hj
          · split
            · exact he.below _ (by omega) hpq j hj
            · exact he.below _ hi hn j hj
        rw [hec]; split
        · rw [hz i hi hn, hz p.length (Nat.le_refl _) hp]; grind
        · exact hz i hi hn
      · rw [hec, if_neg (by omega)]; exact hpiv
      · rw [hec, if_pos ⟨hi, by omega, hn⟩]; grind
      · have hc := re_clear hs2 hp k M.length
        by_cases b : q = 0
        · subst b
          rw [Nat.add_zero, swapL_self M _ (by omega)] at hc |-
          exact hr.then_ hc (by cases odd <;> simp)
        · exact hr.then_ ((re_swap hs hp hpq (by omega)).then_ hc rfl) (by cases odd <;> simp [b]; grind)
theorem eN_ok {n c : Nat} {m : Mat} (h : Shp n c m) (k : Nat) : EOk n c k m (eN m k) := by
  induction k with
  | zero => exact EOk.zero h
  | succ k ih => exact ih.step
def divL (m : Mat) (i col : Nat) : Mat := m.set i ((m.getD i []).map (· / ent m i col))
def above (m : Mat) (i col s : Nat) : Mat := rows m fun k r => if k < i /\ k < s then elimL r (m.getD i []) col else r
def dStep (m : Mat) (i col : Nat) : Mat := above (divL m i col) i col i
theorem getD_map_div (r : List Rat) (a : Rat) (j : Nat) : (r.map (· / a)).getD j 0 = r.getD j 0 / a := by
  simp only [List.getD_eq_getElem?_getD, List.getElem?_map]
  cases r[j]? with
  | none => simp; grind
  | some x => simp
theorem Shp.divL {n c : Nat} {m : Mat} (h : Shp n c m) {i : Nat} (hi : i < n) (col : Nat) : Shp n c (divL m i col) := h.set i (by rw [List.length_map]; exact h.row hi)
theorem ent_divL {n c : Nat} {m : Mat} (h : Shp n c m) {i : Nat} (hi : i < n) (col k j : Nat) : ent (divL m i col) k j = if k = i then ent m i j / ent m i col else ent m k j := by
  unfold divL
  rw [ent_set (by rw [h.1]; exact hi), getD_map_div]; rfl
theorem Shp.above {n c : Nat} {m : Mat} (h : Shp n c m) {t : Nat} (ht : t < n) (col s : Nat) : Shp n c (above m t col s) :=
  h.rows fun i hi r hr => by
    split
    · rw [elimL_len _ _ _ (by rw [hr, h.row ht]), h.row ht]
    · exact hr
theorem ent_above {n c : Nat} {m : Mat} (h : Shp n c m) {t : Nat} (ht : t < n) (col s i j : Nat) : ent (above m t col s) i j = if i < t /\ i < s then ent m i j - (ent m i col / ent m t col) * ent m t j else ent m i j := by
  by_cases hi : i < n
  · unfold Lin.above
    rw [ent_rows (by rw [h.1]; exact hi)]
    by_cases a : i < t /\ i < s
    · simp only [a, and_self, if_true]
      rw [elimL_get _ _ _ _ (by rw [h.row hi, h.row ht])]; rfl
    · rw [if_neg a, if_neg a]; rfl
  · rw [ent_out (h.above ht col s) (.inl (by omega)), if_neg (by omega), ent_out h (.inl (by omega))]
theorem re_above {n c : Nat} {m : Mat} (h : Shp n c m) {t : Nat} (ht : t < n) (col s : Nat) : RE n c (ent m) (ent (above m t col s)) 1 :=
  .addmany t ht (fun i => if i < t /\ i < s then - (ent m i col / ent m t col) else 0)
    (fun i hi e j hj => by rw [ent_above h ht]; split <;> grind) (fun j hj => by rw [ent_above h ht]; simp)
theorem re_divL {n c : Nat} {m : Mat} (h : Shp n c m) {i : Nat} (hi : i < n) (col : Nat) (hne : ent m i col ≠ 0) : RE n c (ent m) (ent (divL m i col)) (1 / ent m i col) :=
  .scale i _ hi (by intro e; grind) (fun j _ => by rw [ent_divL h hi]; simp; grind) (fun r _ hr j _ => by rw [ent_divL h hi, if_neg hr])
noncomputable def dN (m : Mat) (p : List Nat) : Nat -> Mat
  | 0 => m
  | t + 1 => dStep (dN m p t) t (p.getD t 0)
structure DOk (n c t : Nat) (m : Mat) (p : List Nat) (s : Mat) : Prop where
  shp : Shp n c s
  ech : Ech n c (ent s) p
  red : Red n t (ent s) p
  re : ∃ d, RE n c (ent m) (ent s) d
theorem DOk.step {n c t : Nat} {m : Mat} {p : List Nat} {s : Mat} (h : DOk n c t m p s) (ht : t < p.length) : DOk n c (t + 1) m p (dStep s t (p.getD t 0)) := by
  have htn : t < n := Nat.lt_of_lt_of_le ht h.ech.le
  have hp : p.getD t 0 = p[t] := by simp [List.getD_eq_getElem?_getD, ht]
  rw [hp]
  have hd := h.shp.divL htn p[t]
  have hpv := h.ech.piv t ht
  have e1 := fun k j => ent_divL h.shp htn p[t] k j
  have e2 := fun i j => ent_above hd htn p[t] t i j
  obtain ⟨d, hre⟩ := h.re
  have hone : ent (divL s t p[t]) t p[t] = 1 := by rw [e1]; simp; grind
  have hrow : ∀ j, ent (dStep s t p[t]) t j = ent s t j / ent s t p[t] := fun j => by
    unfold dStep; rw [e2, if_neg (by omega), e1]; simp
  have := Red.step (g := ent (dStep s t p[t])) h.ech h.red ht hrow (fun i hi j => by
      rw [hrow]; unfold dStep; rw [e2, if_pos ⟨hi, hi⟩, hone, e1, e1, e1, if_neg (by omega), if_neg (by omega), if_pos rfl]; grind) (fun i hi j => by
      unfold dStep; rw [e2, if_neg (by omega), e1, if_neg (by omega)])
  exact ⟨hd.above htn _ _, this.1, this.2, _, hre.trans ((re_divL h.shp htn _ hpv).trans (re_above hd htn _ _))⟩
theorem dN_ok {n c : Nat} {m : Mat} {p : List Nat} (h : Shp n c m) (he : Ech n c (ent m) p) (t : Nat) (ht : t <= p.length) : DOk n c t m p (dN m p t) := by
  induction t with
  | zero => exact ⟨h, he, ⟨by intros; omega, by intros; omega⟩, 1, .same fun _ _ _ _ => rfl⟩
  | succ t ih => exact (ih (by omega)).step (by omega)
noncomputable def redP (m : Mat) (c : Nat) : Mat × List Nat := (dN (eN m c).1 (eN m c).2.1 (eN m c).2.1.length, (eN m c).2.1)
theorem redP_ok {n c : Nat} {m : Mat} (h : Shp n c m) : Shp n c (redP m c).1 /\ Rref n c (ent (redP m c).1) (redP m c).2 /\ ∃ d, RE n c (ent m) (ent (redP m c).1) d := by
  have h1 := eN_ok h c
  have h2 := dN_ok h1.shp h1.ech _ (Nat.le_refl _)
  obtain ⟨d, h3⟩ := h2.re
  exact ⟨h2.shp, h2.ech.rref h2.red, _, h1.re.trans h3⟩
abbrev Sr := Mat × List Nat × Rat
def pv (m : Mat) (t col : Nat) : Mat := m.set t ((m.getD t []).map (· * (1 / ent m t col)))
def out (m : Mat) (t col : Nat) (s : Nat) : Mat := rows m fun i r => if i ≠ t /\ i < s then List.zipWith (· + ·) r ((m.getD t []).map (· * - r.getD col 0)) else r
noncomputable def rStep (s : Sr) (col : Nat) : Sr :=
  match nzAt s.1 s.2.1.length col with
  | none => s
  | some k => (out (pv (swapL s.1 (s.2.1.length + k) s.2.1.length) s.2.1.length col) s.2.1.length col s.1.length, s.2.1 ++ [col], (if k = 0 then s.2.2 else - s.2.2) * ent (swapL s.1 (s.2.1.length + k) s.2.1.length) s.2.1.length col)
theorem getD_map_mul (r : List Rat) (a : Rat) (j : Nat) : (r.map (· * a)).getD j 0 = r.getD j 0 * a := by
  simp only [List.getD_eq_getElem?_getD, List.getElem?_map]
  cases r[j]? with
  | none => simp
  | some x => simp
theorem zip_add (a b : List Rat) (h : a.length = b.length) (j : Nat) : (List.zipWith (· + ·) a b).getD j 0 = a.getD j 0 + b.getD j 0 := by
  simp only [List.getD_eq_getElem?_getD, List.getElem?_zipWith]
  by_cases hj : j < a.length
  · simp [hj, show j < b.length by omega]
  · simp [show ¬ j < a.length by omega, show ¬ j < b.length by omega]; grind
theorem Shp.pv {n c : Nat} {m : Mat} (h : Shp n c m) {i : Nat} (hi : i < n) (col : Nat) : Shp n c (pv m i col) := h.set i (by rw [List.length_map]; exact h.row hi)
theorem ent_pv {n c : Nat} {m : Mat} (h : Shp n c m) {i : Nat} (hi : i < n) (col k j : Nat) : ent (pv m i col) k j = if k = i then ent m i j * (1 / ent m i col) else ent m k j := by
  unfold pv
  rw [ent_set (by rw [h.1]; exact hi), getD_map_mul]; rfl
theorem Shp.out {n c : Nat} {m : Mat} (h : Shp n c m) {t : Nat} (ht : t < n) (col s : Nat) : Shp n c (out m t col s) :=
  h.rows fun i hi r hr => by
    split
    · rw [List.length_zipWith, List.length_map, hr, h.row ht]; omega
    · exact hr
theorem ent_outm {n c : Nat} {m : Mat} (h : Shp n c m) {t : Nat} (ht : t < n) (col s i j : Nat) : ent (out m t col s) i j = if i ≠ t /\ i < s /\ i < n then ent m i j + ent m t j * - ent m i col else ent m i j := by
  by_cases hi : i < n
  · unfold Lin.out
    rw [ent_rows (by rw [h.1]; exact hi)]
    by_cases a : i ≠ t /\ i < s
    · rw [if_pos a, if_pos ⟨a.1, a.2, hi⟩, zip_add _ _ (by rw [List.length_map, h.row hi, h.row ht]), getD_map_mul]; rfl
    · rw [if_neg a, if_neg (fun b => a ⟨b.1, b.2.1⟩)]; rfl
  · rw [ent_out (h.out ht col s) (.inl (by omega)), if_neg (by omega), ent_out h (.inl (by omega))]
structure ROk (n c k : Nat) (m : Mat) (s : Sr) : Prop where
  shp : Shp n c s.1
  ref : Rref n k (ent s.1) s.2.1
  re : ∃ d, RE n c (ent m) (ent s.1) d /\ s.2.2 * d = 1
theorem ROk.step {n c k : Nat} {m : Mat} {s : Sr} (h : ROk n c k m s) : ROk n c (k + 1) m (rStep s k) := by
  obtain ⟨M, p, fac⟩ := s
  have hs : Shp n c M := h.shp
  have he : Rref n k (ent M) p := h.ref
  obtain ⟨d, hr, hd⟩ : ∃ d, RE n c (ent m) (ent M) d /\ fac * d = 1 := h.re
  have hl := hs.1
  unfold rStep
  dsimp only
  split
  · rename_i hz
    exact ⟨hs, he.skip fun i hi _ => nzAt_none hz i hi, d, hr, hd⟩
  · rename_i q hz
    obtain ⟨h1, h2⟩ := nzAt_some hz
    have hp : p.length < n := by omega
    have hpq : p.length + q < n := by omega
    have hs2 := hs.swap hpq hp
    have hes := fun i j => ent_swap hs hpq hp i j
    have hs3 := hs2.pv hp k
    have hep := fun i j => ent_pv hs2 hp k i j
    have heo := fun i j => ent_outm hs3 hp k M.length i j
    have hpiv : ent (swapL M (p.length + q) p.length) p.length k ≠ 0 := by rw [hes, if_pos rfl]; exact h2
    have hsw : Rref n k (ent (swapL M (p.length + q) p.length)) p := by
      have hsm : ∀ i, i < p.length -> ∀ j, ent (swapL M (p.length + q) p.length) i j = ent M i j := fun i hi j => by
        rw [hes, if_neg (by omega), if_neg (by omega)]
      have hz0 : ∀ i, p.length <= i -> i < n -> ∀ j, j < k -> ent (swapL M (p.length + q) p.length) i j = 0 := fun i hi hn j hj => by
        rw [hes]; split
        · exact he.below _ (by omega) hpq j hj
        · split
          · exact he.below _ (by omega) hp j hj
          · exact he.below _ hi hn j hj
      refine ⟨he.le, he.lt, he.inc, fun i hi j hj => by rw [hsm i hi]; exact he.left i hi j hj, fun i hi => by rw [hsm i hi]; exact he.one i hi, fun t ht i hi hit => ?_, hz0⟩
      by_cases a : i < p.length
      · rw [hsm i a]; exact he.zero t ht i hi hit
      · exact hz0 i (by omega) hi _ (he.lt t ht)
    have hrow : ∀ j, ent (out (pv (swapL M (p.length + q) p.length) p.length k) p.length k M.length) p.length j = ent (swapL M (p.length + q) p.length) p.length j * (1 / ent (swapL M (p.length + q) p.length) p.length k) := fun j => by
      rw [heo, if_neg (by omega), hep, if_pos rfl]
    refine ⟨hs3.out hp _ _, hsw.push hp hpiv hrow (fun i hi hne j => ?_), ?_⟩
    · rw [hrow, heo, if_pos ⟨hne, by omega, hi⟩, hep, hep, hep, if_neg hne, if_neg hne, if_pos rfl]
    · have hre3 : RE n c (ent (swapL M (p.length + q) p.length)) (ent (pv (swapL M (p.length + q) p.length) p.length k)) (1 / ent (swapL M (p.length + q) p.length) p.length k) :=
        .scale p.length _ hp (by intro e; grind) (fun j _ => by rw [hep]; simp; grind) (fun r _ hr j _ => by rw [hep, if_neg hr])
      have hre4 : RE n c (ent (pv (swapL M (p.length + q) p.length) p.length k)) (ent (out (pv (swapL M (p.length + q) p.length) p.length k) p.length k M.length)) 1 :=
        .addmany p.length hp (fun i => if i ≠ p.length /\ i < M.length /\ i < n then - ent (pv (swapL M (p.length + q) p.length) p.length k) i k else 0)
          (fun i hi e j hj => by rw [heo]; split <;> grind) (fun j hj => by rw [heo]; simp)
      by_cases b : q = 0
      · subst b
        rw [Nat.add_zero, swapL_self M _ (by omega)] at hre3 hre4 hpiv |-
        exact ⟨_, hr.trans (hre3.trans hre4), by simp; grind⟩
      · exact ⟨_, hr.trans ((re_swap hs hpq hp (by omega)).trans (hre3.trans hre4)), by simp [b]; grind⟩
end Go.Lin
namespace Go.Lin
theorem Ech.ge {n k : Nat} {f : F2} {p : List Nat} (h : Ech n k f p) (i : Nat) (hi : i < p.length) : i <= p[i] := by
  induction i with
  | zero => omega
  | succ i ih => have := ih (by omega); have := h.inc i (i + 1) (by omega) hi; omega
theorem Rref.ge {n k : Nat} {f : F2} {p : List Nat} (h : Rref n k f p) (i : Nat) (hi : i < p.length) : i <= p[i] := by
  induction i with
  | zero => omega
  | succ i ih => have := ih (by omega); have := h.inc i (i + 1) (by omega) hi; omega
theorem Rref.diag {n c : Nat} {f : F2} {p : List Nat} (h : Rref n c f p) (hp : p.length = n) (hc : ∀ i (hi : i < p.length), p[i] < n) (i : Nat) (hi : i < n) : p[i]'(by omega) = i := by
  have h1 : ∀ q, q < n -> ∀ hq : n - 1 - q < p.length, p[n - 1 - q] <= n - 1 - q := by
    intro q
    induction q with
    | zero => intro h0 hq; have := hc _ hq; omega
    | succ q ih =>
      intro h0 hq
      have h2 := ih (by omega) (by omega)
      have h3 := h.inc (n - 1 - (q + 1)) (n - 1 - q) (by omega) (by omega)
      omega
  have h2 := h1 (n - 1 - i) (by omega) (by omega)
  have h3 := h.ge i (by omega)
  have e : n - 1 - (n - 1 - i) = i := by omega
  simp only [e] at h2
  omega
theorem Rref.unit {n c : Nat} {f : F2} {p : List Nat} (h : Rref n c f p) (hp : p.length = n) (hc : ∀ i (hi : i < p.length), p[i] < n) : Eqm n n f fun i j => if i = j then 1 else 0 := fun i hi j hj => by
  have hd := h.diag hp hc j hj
  by_cases e : i = j
  · subst e
    have := h.one i (by omega); rw [hd] at this; simpa using this
  · have := h.zero j (by omega) i hi e; rw [hd] at this; simpa [e] using this
def mul (n : Nat) (f g : F2) : F2 := fun i j => sm n fun k => f i k * g k j
end Go.Lin
namespace Go.Lin
def ofF (n c : Nat) (f : F2) : Mat := (List.range n).map fun i => (List.range c).map (f i)
theorem shp_ofF (n c : Nat) (f : F2) : Shp n c (ofF n c f) := ⟨by simp [ofF], fun r hr => by
  obtain ⟨i, _, rfl⟩ := List.mem_map.1 hr; simp⟩
theorem ent_ofF (n c : Nat) (f : F2) : Eqm n c (ent (ofF n c f)) f := fun i hi j hj => by simp [ent, ofF, List.getD_eq_getElem?_getD, hi, hj]
theorem RE.congr {n c : Nat} {f f' g : F2} {d : Rat} (h : RE n c f g d) (e : Eqm n c f' f) : RE n c f' g d := (RE.same e).then_ h (by grind)
theorem rref_ex (n c : Nat) (f : F2) : ∃ r p d, Rref n c r p /\ RE n c f r d := by
  obtain ⟨_, h2, d, h3⟩ := redP_ok (shp_ofF n c f)
  exact ⟨_, _, d, h2, h3.congr fun i hi j hj => (ent_ofF n c f i hi j hj).symm⟩
theorem RE.factor {n c r : Nat} {f g : F2} {d : Rat} (h : RE n c f g d) (b : F2) (hf : ∃ a, Eqm n c f (mul r a b)) : ∃ a, Eqm n c g (mul r a b) := by
  induction h with
  | same h => obtain ⟨a, ha⟩ := hf; exact ⟨a, fun i hi j hj => (h i hi j hj).symm.trans (ha i hi j hj)⟩
  | swap i k hi hk hik h1 h2 h3 =>
    obtain ⟨a, ha⟩ := hf
    refine ⟨fun q => if q = i then a k else if q = k then a i else a q, fun q hq j hj => ?_⟩
    by_cases e : q = i
    · subst e; rw [h1 j hj, ha k hk j hj]; simp [mul]
    · by_cases e2 : q = k
      · subst e2; rw [h2 j hj, ha i hi j hj]; simp [mul, e]
      · rw [h3 q hq e e2 j hj, ha q hq j hj]; simp [mul, e, e2]
  | scale i x hi hx h1 h3 =>
    obtain ⟨a, ha⟩ := hf
    refine ⟨fun q => if q = i then fun k => x * a i k else a q, fun q hq j hj => ?_⟩
    by_cases e : q = i
    · subst e; rw [h1 j hj, ha q hq j hj]; simp only [mul, if_true]; rw [<- sm_mul]; exact sm_congr fun k _ => by grind
    · rw [h3 q hq e j hj, ha q hq j hj]; simp [mul, e]
  | add i k x hi hk hik h1 h3 =>
    obtain ⟨a, ha⟩ := hf
    refine ⟨fun q => if q = i then fun y => a i y + x * a k y else a q, fun q hq j hj => ?_⟩
    by_cases e : q = i
    · subst e; rw [h1 j hj, ha q hq j hj, ha k hk j hj]; simp only [mul, if_true]; rw [<- sm_mul, <- sm_add]; exact sm_congr fun k _ => by grind
    · rw [h3 q hq e j hj, ha q hq j hj]; simp [mul, e]
  | trans _ _ ih1 ih2 => exact ih2 (ih1 hf)
theorem rank_le {n c r : Nat} {f g : F2} {p : List Nat} {d : Rat} (hg : Rref n c g p) (h : RE n c f g d) (a b : F2) (hf : Eqm n c f (mul r a b)) : p.length <= r := by
  refine Classical.byContradiction fun hlt => ?_
  obtain ⟨t, ht⟩ := h.factor b ⟨a, hf⟩
  obtain ⟨s, q, e, hs, he⟩ := rref_ex r p.length (fun k i => t i k)
  have hq : ∃ j, j < p.length /\ j ∉ q := by
    refine Classical.byContradiction fun hno => ?_
    have hall : ∀ j, j < p.length -> j ∈ q := fun j hj => Classical.byContradiction fun h => hno ⟨j, hj, h⟩
    have h1 : (List.range p.length).length <= q.length := (List.nodup_range).length_le_of_subset fun j hj => hall j (List.mem_range.1 hj)
    rw [List.length_range] at h1
    have := hs.le
    omega
  obtain ⟨j, hj, hjq⟩ := hq
  have h1 := (he.nul _).2 (hs.nv_nul hjq hj)
  have h2 : ∀ x, x < c -> sm p.length (fun i => nv s q j i * g i x) = 0 := fun x hx => by
    have e1 : sm p.length (fun i => nv s q j i * g i x) = sm p.length (fun i => sm r fun k => (t i k * nv s q j i) * b k x) := sm_congr fun i hi => by
      have := hg.le
      rw [ht i (by omega) x hx]; unfold mul; rw [<- sm_mul]; exact sm_congr fun k _ => by grind
    rw [e1, sm_comm]
    exact sm_zero fun k hk => by
      have := h1 k hk
      rw [sm_congr (g := fun i => b k x * (t i k * nv s q j i)) fun i _ => by grind, sm_mul, this]; grind
  have h3 := h2 p[j] (hg.lt j hj)
  rw [sm_one j hj fun i hi hij => by rw [hg.zero j hj i (by have := hg.le; omega) hij]; grind] at h3
  rw [nv_self, hg.one j hj] at h3
  grind
theorem LI.full {n c : Nat} {f r : F2} {p : List Nat} {d : Rat} (hf : LI n c f) (hr : Rref n c r p) (h : RE n c f r d) : p.length = n := by
  have hle := hr.le
  refine Classical.byContradiction fun hne => ?_
  have := (h.li hf) (fun i => if i = p.length then 1 else 0) (fun j hj => by
    unfold cmb
    rw [sm_one p.length (by omega) fun i _ hi => by simp [hi]]
    rw [hr.below _ (Nat.le_refl _) (by omega) j hj]; grind) p.length (by omega)
  simp at this
def nullL (r : F2) (p : List Nat) (c : Nat) : Mat := ((List.range c).filter (· ∉ p)).map fun j => (List.range c).map (nv r p j)
theorem nullL_li (r : F2) (p : List Nat) (c : Nat) : LI (nullL r p c).length c (ent (nullL r p c)) := by
  intro y hy i hi
  have hi' : i < ((List.range c).filter (· ∉ p)).length := by simpa [nullL] using hi
  have hmem := List.getElem_mem hi'
  rw [List.mem_filter, List.mem_range] at hmem
  have h1 := hy _ hmem.1
  have hnp : ((List.range c).filter (· ∉ p))[i] ∉ p := by simpa using hmem.2
  have he : ∀ k (hk : k < ((List.range c).filter (· ∉ p)).length), ent (nullL r p c) k ((List.range c).filter (· ∉ p))[i] = nv r p ((List.range c).filter (· ∉ p))[k] ((List.range c).filter (· ∉ p))[i] := fun k hk => by
    unfold ent nullL
    rw [List.getD_eq_getElem?_getD (l := List.map _ _), List.getElem?_map, List.getElem?_eq_getElem hk]
    simp only [Option.map_some, Option.getD_some]
    rw [List.getD_eq_getElem?_getD, List.getElem?_map, List.getElem?_range hmem.1]; rfl
  unfold cmb at h1
  rw [sm_one i hi fun k hk hki => by
    have hk' : k < ((List.range c).filter (· ∉ p)).length := by simpa [nullL] using hk
    have hne : ((List.range c).filter (· ∉ p))[i] ≠ ((List.range c).filter (· ∉ p))[k] := fun e => by
      have hnd : ((List.range c).filter (· ∉ p)).Pairwise (· < ·) := List.Pairwise.filter _ List.pairwise_lt_range
      rw [List.pairwise_iff_getElem] at hnd
      rcases Nat.lt_or_gt_of_ne hki with a | a
      · have := hnd k i hk' hi' a; omega
      · have := hnd i k hi' hk' a; omega
    rw [he k hk', nv_free hnp hne]; grind, he i hi', nv_self] at h1
  grind
end Go.Lin
namespace Go.Lin
def app (c : Nat) (f : F2) (x : Nat -> Rat) (i : Nat) : Rat := sm c fun j => f i j * x j
def gr (n : Nat) (f : F2) : F2 := fun i j => sm n fun r => f r i * f r j
def gy (n : Nat) (f : F2) (y : Nat -> Rat) : Nat -> Rat := fun i => sm n fun r => f r i * y r
def NS (n c : Nat) (f : F2) (y b : Nat -> Rat) : Prop := ∀ i, i < c -> sm c (fun j => gr n f i j * b j) = gy n f y i
theorem Rref.drop {n c : Nat} {f : F2} {p : List Nat} (h : Rref n (c + 1) f p) (hc : c ∉ p) : Rref n c f p :=
  ⟨h.le, fun i hi => by
    have h1 := h.lt i hi
    have h2 : p[i] ≠ c := by rintro rfl; exact hc (List.getElem_mem _)
    omega, h.inc, h.left, h.one, h.zero, fun i h1 h2 j hj => h.below i h1 h2 j (by omega)⟩
end Go.Lin
namespace Go.Lin
def Inv (m : Nat) (G v : F2) : Prop := (∀ a, a < m -> ∀ b, b < m -> sm m (fun k => G a k * v k b) = if a = b then 1 else 0) /\ ∀ a, a < m -> ∀ b, b < m -> sm m (fun k => v a k * G k b) = if a = b then 1 else 0
def hat (m : Nat) (u v : F2) : F2 := fun i j => sm m fun a => u i a * sm m fun b => v a b * u j b
end Go.Lin
namespace Go.Lim
theorem B_ex : ∃ n : Nat, n = 4294967296 := ⟨_, rfl⟩
noncomputable def B : Nat := Classical.choose B_ex
theorem B_eq : B = 4294967296 := Classical.choose_spec B_ex
theorem B_pos : 0 < B := by rw [B_eq]; decide
noncomputable def nv : List Nat -> Nat
  | [] => 0
  | d :: l => d + B * nv l
def Dig (l : List Nat) : Prop := ∀ d ∈ l, d < B
def validL (l : List Nat) : Bool := !(l.getLast? == some 0)
def vl (l : List Nat) : List Nat := if validL l then l else []
noncomputable def val (l : List Nat) : Nat := nv (vl l)
def Canon (l : List Nat) (n : Nat) : Prop := Dig l /\ validL l = true /\ nv l = n
theorem nv_append (a b : List Nat) : nv (a ++ b) = nv a + B ^ a.length * nv b := by
  induction a with
  | nil => simp [nv]
  | cons d a ih => simp only [List.cons_append, nv, ih, List.length_cons, Nat.pow_succ, Nat.mul_add]; rw [Nat.mul_comm (B ^ a.length) B, Nat.mul_assoc, Nat.add_assoc]
theorem nv_snoc (a : List Nat) (d : Nat) : nv (a ++ [d]) = nv a + B ^ a.length * d := by rw [nv_append]; simp [nv]
theorem nv_zeros (n : Nat) : nv (List.replicate n 0) = 0 := by
  induction n with
  | zero => rfl
  | succ n ih => simp [List.replicate_succ, nv, ih]
theorem Dig.nil : Dig [] := by intro d h; simp at h
theorem Dig.cons {d : Nat} {l : List Nat} (hd : d < B) (h : Dig l) : Dig (d :: l) := by
  intro x hx; rcases List.mem_cons.1 hx with rfl | hx
  · exact hd
  · exact h x hx
theorem Dig.append {a b : List Nat} (ha : Dig a) (hb : Dig b) : Dig (a ++ b) := by
  intro x hx; rcases List.mem_append.1 hx with h | h
  · exact ha x h
  · exact hb x h
theorem Dig.take {a : List Nat} (ha : Dig a) (n : Nat) : Dig (a.take n) := fun x hx => ha x (List.mem_of_mem_take hx)
theorem Dig.drop {a : List Nat} (ha : Dig a) (n : Nat) : Dig (a.drop n) := fun x hx => ha x (List.mem_of_mem_drop hx)
theorem Dig.get {a : List Nat} (ha : Dig a) (i : Nat) (h : i < a.length) : a[i] < B := ha _ (List.getElem_mem h)
theorem Dig.set {a : List Nat} (ha : Dig a) (i d : Nat) (hd : d < B) : Dig (a.set i d) := by
  intro x hx; rcases List.mem_or_eq_of_mem_set hx with h | rfl
  · exact ha x h
  · exact hd
theorem Dig.zeros (n : Nat) : Dig (List.replicate n 0) := by intro x hx; rw [List.eq_of_mem_replicate hx]; exact B_pos
theorem nv_lt {l : List Nat} (h : Dig l) : nv l < B ^ l.length := by
  induction l with
  | nil => simp [nv]
  | cons d l ih =>
    have h1 := ih (fun x hx => h x (List.mem_cons_of_mem _ hx))
    have h2 := h d (List.mem_cons_self ..)
    simp only [nv, List.length_cons, Nat.pow_succ]
    have : B * nv l + B <= B ^ l.length * B := by rw [<- Nat.mul_succ, Nat.mul_comm]; exact Nat.mul_le_mul_right _ h1
    omega
theorem validL_snoc (l : List Nat) (d : Nat) : validL (l ++ [d]) = (d != 0) := by simp [validL, bne]
theorem validL_last {l : List Nat} (h : 0 < l.length) : validL l = (l[l.length - 1] != 0) := by
  unfold validL
  rw [List.getLast?_eq_getElem?, List.getElem?_eq_getElem (by omega)]
  simp [bne]
theorem vl_valid (l : List Nat) : validL (vl l) = true := by
  unfold vl; split
  · assumption
  · rfl
theorem vl_dig {l : List Nat} (h : Dig l) : Dig (vl l) := by
  unfold vl; split
  · exact h
  · exact Dig.nil
theorem vl_len (l : List Nat) : (vl l).length <= l.length := by unfold vl; split <;> simp
theorem vl_canon {l : List Nat} (h : Dig l) : Canon (vl l) (val l) := ⟨vl_dig h, vl_valid l, rfl⟩
theorem Canon.vl {l : List Nat} {n : Nat} (h : Canon l n) : vl l = l := by unfold Lim.vl; rw [h.2.1]; rfl
theorem Canon.val {l : List Nat} {n : Nat} (h : Canon l n) : val l = n := by unfold Lim.val; rw [h.vl]; exact h.2.2
theorem Canon.nil : Canon [] 0 := ⟨Dig.nil, rfl, rfl⟩
theorem snocInd {P : List Nat -> Prop} (h0 : P []) (hs : ∀ l d, P l -> P (l ++ [d])) (l : List Nat) : P l := by
  have : ∀ m : List Nat, P m.reverse := by
    intro m
    induction m with
    | nil => exact h0
    | cons d m ih => rw [List.reverse_cons]; exact hs _ _ ih
  simpa using this l.reverse
def Cut (l : List Nat) (k : Nat) : Prop := k <= l.length /\ nv (l.take k) = nv l
theorem Cut.all (l : List Nat) : Cut l l.length := ⟨Nat.le_refl _, by rw [List.take_length]⟩
theorem Cut.less {l : List Nat} {k : Nat} (h : Cut l k) (hk : 0 < k) (h0 : l[k - 1]'(by have := h.1; omega) = 0) : Cut l (k - 1) := by
  refine ⟨by have := h.1; omega, ?_⟩
  have h1 := h.1
  have e : l.take k = l.take (k - 1) ++ [l[k - 1]'(by omega)] := by
    conv => lhs; rw [show k = (k - 1) + 1 from by omega]
    exact List.take_succ_eq_append_getElem (by omega)
  rw [<- h.2, e, nv_snoc, h0]; simp
theorem Cut.canon {l : List Nat} {k : Nat} (h : Cut l k) (hd : Dig l) (hv : k = 0 \/ ∃ h' : k - 1 < l.length, l[k - 1] ≠ 0) : Canon (l.take k) (nv l) := by
  refine ⟨hd.take k, ?_, h.2⟩
  have h1 := h.1
  rcases hv with rfl | ⟨h', h2⟩
  · rfl
  · by_cases hk : k = 0
    · subst hk; rfl
    rw [validL_last (by simp; omega)]
    have : (l.take k).length = k := by simp; omega
    simp [this, h2]
theorem Canon.unique {a b : List Nat} {n : Nat} (ha : Canon a n) (hb : Canon b n) : a = b := by
  induction a generalizing b n with
  | nil =>
    obtain ⟨h1, h2, h3⟩ := hb
    have hn : n = 0 := ha.2.2.symm
    subst hn
    clear ha
    induction b using snocInd with
    | h0 => rfl
    | hs l d ih =>
      rw [nv_snoc] at h3
      rw [validL_snoc] at h2
      have : 0 < B ^ l.length := Nat.pow_pos B_pos
      have hd : 0 < d := by simp at h2; omega
      have := Nat.mul_pos this hd
      omega
  | cons d a ih =>
    have cv : ∀ {d : Nat} {l : List Nat}, validL (d :: l) = true -> validL l = true := by
      intro d l h
      cases l with
      | nil => rfl
      | cons x l => simpa [validL] using h
    obtain ⟨h1, h2, h3⟩ := ha
    obtain ⟨g1, g2, g3⟩ := hb
    cases b with
    | nil =>
      have hn : n = 0 := g3.symm
      have : Canon (d :: a) 0 := ⟨h1, h2, by rw [h3, hn]⟩
      clear ih
      exfalso
      have key : ∀ l : List Nat, Canon l 0 -> l = [] := by
        intro l
        induction l using snocInd with
        | h0 => intro _; rfl
        | hs l d _ =>
          rintro ⟨_, k2, k3⟩
          rw [nv_snoc] at k3
          rw [validL_snoc] at k2
          have p1 : 0 < B ^ l.length := Nat.pow_pos B_pos
          have hd : 0 < d := by simp at k2; omega
          have := Nat.mul_pos p1 hd
          omega
      simpa using key _ this
    | cons c b =>
      have hd := h1 d (List.mem_cons_self ..)
      have hc := g1 c (List.mem_cons_self ..)
      simp only [nv] at h3 g3
      have e : d + B * nv a = c + B * nv b := by omega
      have hdc : d = c := by
        have := congrArg (· % B) e
        simpa [Nat.add_mul_mod_self_left, Nat.mod_eq_of_lt hd, Nat.mod_eq_of_lt hc] using this
      subst hdc
      have : B * nv a = B * nv b := by omega
      have hab : nv a = nv b := Nat.eq_of_mul_eq_mul_left B_pos this
      rw [ih (n := nv a) (b := b) ⟨fun x hx => h1 x (List.mem_cons_of_mem _ hx), cv h2, rfl⟩ ⟨fun x hx => g1 x (List.mem_cons_of_mem _ hx), cv g2, hab.symm⟩]
def AddInv (a b o : List Nat) (i c : Nat) : Prop := o.length = a.length + 1 /\ Dig o /\ c <= 1 /\ nv (o.take i) + B ^ i * c = nv (a.take i) + nv (b.take i)
theorem take_set_succ (o : List Nat) (i d : Nat) (h : i < o.length) : (o.set i d).take (i + 1) = o.take i ++ [d] := by
  rw [List.take_succ_eq_append_getElem (by simpa using h), List.take_set, List.getElem_set_self]
  congr 1
  rw [List.set_eq_of_length_le (by simp; omega)]
theorem nv_take_succ (a : List Nat) (i : Nat) (h : i < a.length) : nv (a.take (i + 1)) = nv (a.take i) + B ^ i * a[i] := by
  rw [List.take_succ_eq_append_getElem h, nv_snoc]; congr 3; simp; omega
theorem nv_take_ge (a : List Nat) (i : Nat) (h : a.length <= i) : nv (a.take (i + 1)) = nv (a.take i) := by
  rw [List.take_of_length_le (by omega), List.take_of_length_le h]
theorem AddInv.start (a b : List Nat) : AddInv a b (List.replicate (a.length + 1) 0) 0 0 := ⟨by simp, Dig.zeros _, by omega, by simp [nv]⟩
theorem AddInv.step {a b o : List Nat} {i c y : Nat} (h : AddInv a b o i c) (hi : i < a.length) (hy : (∃ h : i < b.length, b[i] = y) \/ (b.length <= i /\ y = 0)) (ha : Dig a) (hb : Dig b) :
    AddInv a b (o.set i ((a[i] + y + c) % 4294967296)) (i + 1) ((a[i] + y + c) / 4294967296) := by
  obtain ⟨h1, h2, h3, h4⟩ := h
  have hai := ha.get i hi
  have hyB : y < B := by
    rcases hy with ⟨h, rfl⟩ | ⟨_, rfl⟩
    · exact hb.get i h
    · exact B_pos
  rw [B_eq] at hai hyB
  refine ⟨by simpa using h1, h2.set _ _ (by rw [B_eq]; exact Nat.mod_lt _ (by decide)), by omega, ?_⟩
  have hb2 : nv (b.take (i + 1)) = nv (b.take i) + B ^ i * y := by
    rcases hy with ⟨h, rfl⟩ | ⟨h, rfl⟩
    · exact nv_take_succ b i h
    · rw [nv_take_ge b i h]; simp
  rw [take_set_succ o i _ (by omega), nv_snoc, nv_take_succ a i hi, hb2, List.length_take, Nat.min_eq_left (by omega), Nat.pow_succ, Nat.mul_assoc]
  have e : (a[i] + y + c) % 4294967296 + B * ((a[i] + y + c) / 4294967296) = a[i] + y + c := by rw [B_eq]; omega
  have e2 : B ^ i * ((a[i] + y + c) % 4294967296) + B ^ i * (B * ((a[i] + y + c) / 4294967296)) = B ^ i * a[i] + B ^ i * y + B ^ i * c := by rw [<- Nat.mul_add, e, Nat.mul_add, Nat.mul_add]
  omega
theorem AddInv.done {a b o : List Nat} {c : Nat} (h : AddInv a b o a.length c) (hab : b.length <= a.length) : Dig (o.set a.length c) /\ nv (o.set a.length c) = nv a + nv b /\ (o.set a.length c).length = a.length + 1 := by
  obtain ⟨h1, h2, h3, h4⟩ := h
  refine ⟨h2.set _ _ (by rw [B_eq]; omega), ?_, by simpa using h1⟩
  have e : o.set a.length c = (o.set a.length c).take (a.length + 1) := by rw [List.take_of_length_le (by simp; omega)]
  rw [e, take_set_succ o _ _ (by omega), nv_snoc, List.length_take, Nat.min_eq_left (by omega), h4, List.take_of_length_le (Nat.le_refl _), List.take_of_length_le hab]
def lg (n : Nat) : Nat := if n = 0 then 0 else Nat.log2 n / 32 + 1
theorem B_two (m : Nat) : B ^ m = 2 ^ (32 * m) := by rw [Nat.pow_mul, B_eq]
theorem lg_le {n m : Nat} : lg n <= m ↔ n < B ^ m := by
  unfold lg
  by_cases h : n = 0
  · subst h; simp [Nat.pow_pos B_pos]
  · rw [if_neg h, B_two, <- Nat.log2_lt h]; omega
theorem Canon.len {l : List Nat} {n : Nat} (h : Canon l n) : l.length = lg n := by
  have h1 : lg n <= l.length := lg_le.2 (by rw [<- h.2.2]; exact nv_lt h.1)
  obtain ⟨hd, hv, rfl⟩ := h
  induction l using snocInd with
  | h0 => rfl
  | hs l d _ =>
    rw [validL_snoc] at hv
    have hd : 0 < d := by simp at hv; omega
    have : ¬ lg (nv (l ++ [d])) <= l.length := by
      rw [lg_le, nv_snoc]
      have := Nat.mul_le_mul_left (B ^ l.length) hd
      omega
    simp at h1 |-
    omega
theorem lg_zero : lg 0 = 0 := rfl
theorem lg_mono {a b : Nat} (h : a <= b) : lg a <= lg b := lg_le.2 (Nat.lt_of_le_of_lt h (lg_le.1 (Nat.le_refl _)))
theorem lg_add (a b : Nat) : lg (a + b) <= max (lg a) (lg b) + 1 := by
  rw [lg_le]
  have h1 := (lg_le (n := a) (m := max (lg a) (lg b))).1 (Nat.le_max_left _ _)
  have h2 := (lg_le (n := b) (m := max (lg a) (lg b))).1 (Nat.le_max_right _ _)
  rw [Nat.pow_succ]
  have : 0 < B ^ max (lg a) (lg b) := Nat.pow_pos B_pos
  have := B_eq
  generalize B ^ max (lg a) (lg b) = p at *
  rw [B_eq]; omega
theorem lg_mul (a b : Nat) : lg (a * b) <= lg a + lg b := by
  rw [lg_le, Nat.pow_add]
  exact Nat.mul_lt_mul'' (lg_le.1 (Nat.le_refl _)) (lg_le.1 (Nat.le_refl _))
theorem lg_pos {a : Nat} (h : 0 < a) : 0 < lg a := by unfold lg; rw [if_neg (by omega)]; omega
theorem val_lg (l : List Nat) (h : Dig l) : lg (val l) <= l.length := by
  have := (vl_canon h).len; have := vl_len l; omega
def cmpN (a b : Nat) : Int := if a < b then -1 else if b < a then 1 else 0
theorem cmpN_of_len_lt {a b : List Nat} {m n : Nat} (ha : Canon a m) (hb : Canon b n) (h : a.length < b.length) : cmpN m n = -1 := by
  have : m < n := by
    rcases Nat.lt_or_ge m n with h1 | h1
    · exact h1
    · have := lg_mono h1; rw [<- ha.len, <- hb.len] at this; omega
  simp [cmpN, this]
theorem cmpN_of_len_gt {a b : List Nat} {m n : Nat} (ha : Canon a m) (hb : Canon b n) (h : b.length < a.length) : cmpN m n = 1 := by
  have : n < m := by
    rcases Nat.lt_or_ge n m with h1 | h1
    · exact h1
    · have := lg_mono h1; rw [<- ha.len, <- hb.len] at this; omega
  simp [cmpN, this, Nat.lt_asymm this]
theorem nv_split (a : List Nat) (k : Nat) (hk : k <= a.length) : nv a = nv (a.take k) + B ^ k * nv (a.drop k) := by
  have := nv_append (a.take k) (a.drop k)
  rw [List.take_append_drop, List.length_take, Nat.min_eq_left hk] at this
  exact this
theorem lt_of_digit {a b : List Nat} (ha : Dig a) {k : Nat} (hl : a.length = b.length) (h0 : 0 < k) (hk : k <= a.length) (hd : a.drop k = b.drop k) (h : a[k - 1]'(by omega) < b[k - 1]'(by omega)) : nv a < nv b := by
  rw [nv_split a k hk, nv_split b k (by omega), hd]
  have ha1 := nv_take_succ a (k - 1) (by omega)
  have hb1 := nv_take_succ b (k - 1) (by omega)
  rw [show k - 1 + 1 = k from by omega] at ha1 hb1
  have h1 := nv_lt (ha.take (k - 1))
  rw [List.length_take, Nat.min_eq_left (by omega)] at h1
  have h2 : B ^ (k - 1) * a[k - 1]'(by omega) + B ^ (k - 1) <= B ^ (k - 1) * b[k - 1]'(by omega) := by rw [<- Nat.mul_succ]; exact Nat.mul_le_mul_left _ h
  omega
theorem cmpN_of_lt {a b : List Nat} {m n k : Nat} (ha : Canon a m) (hb : Canon b n) (hl : a.length = b.length) (h0 : 0 < k) (hk : k <= a.length) (hd : a.drop k = b.drop k) (h : a[k - 1]'(by omega) < b[k - 1]'(by omega)) : cmpN m n = -1 := by
  have := lt_of_digit ha.1 hl h0 hk hd h
  rw [ha.2.2, hb.2.2] at this
  simp [cmpN, this]
theorem cmpN_of_gt {a b : List Nat} {m n k : Nat} (ha : Canon a m) (hb : Canon b n) (hl : a.length = b.length) (h0 : 0 < k) (hk : k <= a.length) (hd : a.drop k = b.drop k) (h : b[k - 1]'(by omega) < a[k - 1]'(by omega)) : cmpN m n = 1 := by
  have := lt_of_digit hb.1 hl.symm h0 (by omega) hd.symm h
  rw [ha.2.2, hb.2.2] at this
  simp [cmpN, this, Nat.lt_asymm this]
theorem drop_eq_pred {a b : List Nat} {k : Nat} (hl : a.length = b.length) (h0 : 0 < k) (hk : k <= a.length) (hd : a.drop k = b.drop k) (h : a[k - 1]'(by omega) = b[k - 1]'(by omega)) : a.drop (k - 1) = b.drop (k - 1) := by
  have h1 := List.drop_eq_getElem_cons (l := a) (i := k - 1) (by omega)
  have h2 := List.drop_eq_getElem_cons (l := b) (i := k - 1) (by omega)
  rw [h1, h2, show k - 1 + 1 = k from by omega, hd, h]
theorem cmpN_of_eq {a b : List Nat} {m n k : Nat} (ha : Canon a m) (hb : Canon b n) (hk : k = 0) (hd : a.drop k = b.drop k) : cmpN m n = 0 := by
  subst hk
  have : a = b := by simpa using hd
  have : m = n := by rw [<- ha.2.2, <- hb.2.2, this]
  simp [cmpN, this]
theorem cmpN_lt (a b : Nat) : cmpN a b < 0 ↔ a < b := by unfold cmpN; split <;> (try split) <;> simp_all
theorem cmpN_eq (a b : Nat) : cmpN a b = 0 ↔ a = b := by unfold cmpN; split <;> (try split) <;> simp_all <;> omega
def ShortInv (l q : List Nat) (d k r : Nat) : Prop := q.length = l.length /\ Dig q /\ r < d /\ nv (l.drop k) = d * nv (q.drop k) + r
theorem ShortInv.start (l : List Nat) (d : Nat) (hd : 0 < d) : ShortInv l (List.replicate l.length 0) d l.length 0 :=
  ⟨by simp, Dig.zeros _, hd, by simp [nv]⟩
theorem drop_set_pred (q : List Nat) (k x : Nat) (h0 : 0 < k) (hk : k <= q.length) : (q.set (k - 1) x).drop (k - 1) = x :: q.drop k := by
  rw [List.drop_eq_getElem_cons (by simp; omega), List.getElem_set_self, show k - 1 + 1 = k from by omega, List.drop_set_of_lt (by omega)]
theorem ShortInv.step {l q : List Nat} {d k r : Nat} (h : ShortInv l q d k r) (h0 : 0 < k) (hk : k <= l.length) (hl : Dig l) :
    ShortInv l (q.set (k - 1) ((r * 4294967296 + l[k - 1]) / d)) d (k - 1) ((r * 4294967296 + l[k - 1]) % d) := by
  obtain ⟨h1, h2, h3, h4⟩ := h
  have hlk := hl.get (k - 1) (by omega)
  rw [B_eq] at hlk
  have hx : (r * 4294967296 + l[k - 1]) / d < 4294967296 := by
    rw [Nat.div_lt_iff_lt_mul (by omega)]
    have : (r + 1) * 4294967296 <= d * 4294967296 := Nat.mul_le_mul_right _ h3
    rw [Nat.mul_comm 4294967296 d]; omega
  refine ⟨by simpa using h1, h2.set _ _ (by rw [B_eq]; exact hx), Nat.mod_lt _ (by omega), ?_⟩
  rw [drop_set_pred q k _ h0 (by omega), List.drop_eq_getElem_cons (l := l) (i := k - 1) (by omega), show k - 1 + 1 = k from by omega]
  simp only [nv]
  rw [h4]
  have e := Nat.div_add_mod (r * 4294967296 + l[k - 1]) d
  rw [B_eq]
  generalize (r * 4294967296 + l[k - 1]) / d = x at *
  generalize (r * 4294967296 + l[k - 1]) % d = y at *
  generalize nv (q.drop k) = z at *
  have e2 : 4294967296 * (d * z + r) = d * (4294967296 * z) + r * 4294967296 := by rw [Nat.mul_add, <- Nat.mul_assoc, <- Nat.mul_assoc, Nat.mul_comm 4294967296 d, Nat.mul_comm 4294967296 r]
  rw [e2, Nat.mul_add]; omega
theorem ShortInv.done {l q : List Nat} {d r : Nat} (h : ShortInv l q d 0 r) : nv q = nv l / d /\ r = nv l % d := by
  obtain ⟨h1, h2, h3, h4⟩ := h
  simp only [List.drop_zero] at h4
  rw [h4, Nat.mul_add_div (by omega), Nat.div_eq_of_lt h3, Nat.mul_add_mod, Nat.mod_eq_of_lt h3]
  exact ⟨rfl, rfl⟩
theorem nv_set (o : List Nat) (k d : Nat) (h : k < o.length) : nv (o.set k d) + B ^ k * o[k] = nv o + B ^ k * d := by
  induction o generalizing k with
  | nil => simp at h
  | cons x o ih =>
    match k with
    | 0 => simp [nv]; omega
    | k + 1 =>
      have := ih k (by simpa using h)
      simp only [List.set_cons_succ, nv, List.getElem_cons_succ, Nat.pow_succ]
      have e1 : B ^ k * B * o[k]'(by simpa using h) = B * (B ^ k * o[k]'(by simpa using h)) := by rw [Nat.mul_comm (B ^ k) B, Nat.mul_assoc]
      have e2 : B ^ k * B * d = B * (B ^ k * d) := by rw [Nat.mul_comm (B ^ k) B, Nat.mul_assoc]
      rw [e1, e2, Nat.add_assoc, <- Nat.mul_add, this, Nat.mul_add, Nat.add_assoc]
def MulInv (a b o : List Nat) (i j c : Nat) : Prop := o.length = a.length + b.length /\ Dig o /\ c < B /\ (∀ p (h : p < o.length), i + b.length <= p -> o[p] = 0) /\
  nv o + B ^ (i + j) * c = nv (a.take i) * nv b + (a.getD i 0) * B ^ i * nv (b.take j)
theorem MulInv.start (a b : List Nat) : MulInv a b (List.replicate (a.length + b.length) 0) 0 0 0 :=
  ⟨by simp, Dig.zeros _, B_pos, by simp, by simp [nv, nv_zeros]⟩
theorem MulInv.step {a b o : List Nat} {i j c : Nat} (h : MulInv a b o i j c) (hi : i < a.length) (hj : j < b.length) (ha : Dig a) (hb : Dig b) (hij : i + j < o.length) :
    MulInv a b (o.set (i + j) ((c + (a[i] * b[j] + o[i + j])) % 4294967296)) i (j + 1) ((c + (a[i] * b[j] + o[i + j])) / 4294967296) /\ c + (a[i] * b[j] + o[i + j]) < 18446744073709551616 /\ a[i] * b[j] + o[i + j] < 18446744073709551616 /\ a[i] * b[j] < 18446744073709551616 := by
  obtain ⟨h1, h2, h3, h4, h5⟩ := h
  have hai := ha.get i hi
  have hbj := hb.get j hj
  have hoj := h2.get (i + j) hij
  rw [B_eq] at hai hbj hoj h3
  have hm : a[i] * b[j] <= 4294967295 * 4294967295 := Nat.mul_le_mul (by omega) (by omega)
  have hs := nv_set o (i + j) ((c + (a[i] * b[j] + o[i + j])) % 4294967296) hij
  have hD : a.getD i 0 = a[i] := by simp [List.getD, hi]
  refine ⟨⟨by simpa using h1, h2.set _ _ (by rw [B_eq]; exact Nat.mod_lt _ (by decide)), by rw [B_eq]; omega, ?_, ?_⟩, by omega, by omega, by omega⟩
  · intro p hp hpp
    rw [List.getElem_set, if_neg (by omega)]
    exact h4 p (by simpa using hp) hpp
  · rw [hD] at h5 |-
    rw [nv_take_succ b j hj, show i + (j + 1) = (i + j) + 1 from rfl, Nat.pow_succ]
    have e := Nat.div_add_mod (c + (a[i] * b[j] + o[i + j])) 4294967296
    generalize (c + (a[i] * b[j] + o[i + j])) / 4294967296 = x at *
    generalize (c + (a[i] * b[j] + o[i + j])) % 4294967296 = y at *
    generalize nv (o.set (i + j) y) = no at *
    have e3 : B ^ (i + j) * B * x = B ^ (i + j) * (4294967296 * x) := by rw [B_eq, Nat.mul_assoc]
    have e4 : a[i] * B ^ i * (nv (b.take j) + B ^ j * b[j]) = a[i] * B ^ i * nv (b.take j) + B ^ (i + j) * (a[i] * b[j]) := by
      rw [Nat.mul_add, Nat.pow_add]
      congr 1
      ac_rfl
    rw [e3, e4]
    have e5 : B ^ (i + j) * (4294967296 * x) + B ^ (i + j) * y = B ^ (i + j) * c + (B ^ (i + j) * (a[i] * b[j]) + B ^ (i + j) * o[i + j]) := by
      rw [<- Nat.mul_add, e, Nat.mul_add, Nat.mul_add]
    omega
theorem MulInv.row {a b o : List Nat} {i c : Nat} (h : MulInv a b o i b.length c) (hi : i < a.length) : MulInv a b (o.set (i + b.length) c) (i + 1) 0 0 := by
  obtain ⟨h1, h2, h3, h4, h5⟩ := h
  have hs := nv_set o (i + b.length) c (by omega)
  have hz := h4 (i + b.length) (by omega) (by omega)
  rw [hz, Nat.mul_zero, Nat.add_zero] at hs
  have hD : a.getD i 0 = a[i] := by simp [List.getD, hi]
  refine ⟨by simpa using h1, h2.set _ _ h3, B_pos, ?_, ?_⟩
  · intro p hp hpp
    rw [List.getElem_set, if_neg (by omega)]
    exact h4 p (by simpa using hp) (by omega)
  · rw [List.take_zero, show nv [] = 0 from rfl, Nat.mul_zero, Nat.mul_zero, Nat.add_zero, Nat.add_zero, hs, h5, hD, List.take_of_length_le (Nat.le_refl b.length), nv_take_succ a i hi, Nat.add_mul, Nat.mul_comm (B ^ i) a[i]]
theorem MulInv.done {a b o : List Nat} {c : Nat} (h : MulInv a b o a.length 0 c) (hc : c = 0) : nv o = nv a * nv b := by
  obtain ⟨h1, h2, h3, h4, h5⟩ := h
  subst hc
  simpa [nv] using h5
theorem lg_one_iff {n : Nat} (h0 : 0 < n) (h : n < 4294967296) : lg n = 1 := by
  have h1 : lg n <= 1 := lg_le.2 (by rw [Nat.pow_one, B_eq]; exact h)
  have := lg_pos h0
  omega
theorem canon_one {l : List Nat} {n : Nat} (h : Canon l n) (h0 : 0 < n) (h1 : n < 4294967296) : l = [n] := by
  have h2 := h.len
  rw [lg_one_iff h0 h1] at h2
  match l, h2 with
  | [d], _ => have := h.2.2; simp [nv] at this; rw [this]
theorem canon_of {n : Nat} (h0 : 0 < n) (h1 : n < 4294967296) : Canon [n] n := ⟨Dig.cons (by rw [B_eq]; exact h1) Dig.nil, by simp [validL]; omega, by simp [nv]⟩
theorem canon_nil_iff {l : List Nat} {n : Nat} (h : Canon l n) : l = [] ↔ n = 0 := by
  constructor
  · rintro rfl; exact h.2.2.symm
  · intro hn; have := h.len; rw [hn] at this; exact List.eq_nil_of_length_eq_zero this
theorem MulInv.step' {a b o : List Nat} {i j c x y z : Nat} (h : MulInv a b o i j c) (hi : i < a.length) (hj : j < b.length) (ha : Dig a) (hb : Dig b) (hij : i + j < o.length) (hx : a[i] = x) (hy : b[j] = y) (hz : o[i + j] = z) :
    MulInv a b (o.set (i + j) ((c + (x * y + z)) % 4294967296)) i (j + 1) ((c + (x * y + z)) / 4294967296) /\ c + (x * y + z) < 18446744073709551616 := by
  subst hx; subst hy; subst hz
  exact ⟨(h.step hi hj ha hb hij).1, (h.step hi hj ha hb hij).2.1⟩
def RAddInv (a b o : List Nat) (i c : Nat) : Prop := o.length = i /\ Dig o /\ c <= 1 /\ nv o + B ^ i * c = nv (a.take i) + nv (b.take i)
theorem RAddInv.start (a b : List Nat) : RAddInv a b [] 0 0 := ⟨rfl, Dig.nil, by omega, by simp [nv]⟩
theorem nv_take_getD (a : List Nat) (i : Nat) : nv (a.take (i + 1)) = nv (a.take i) + B ^ i * a.getD i 0 := by
  by_cases h : i < a.length
  · rw [nv_take_succ a i h]; simp [List.getD, h]
  · rw [nv_take_ge a i (by omega)]; simp [List.getD, h]
theorem Dig.getD {a : List Nat} (ha : Dig a) (i : Nat) : a.getD i 0 < B := by
  by_cases h : i < a.length
  · simpa [List.getD, h] using ha.get i h
  · simpa [List.getD, h] using B_pos
theorem RAddInv.step {a b o : List Nat} {i c : Nat} (h : RAddInv a b o i c) (ha : Dig a) (hb : Dig b) :
    RAddInv a b (o ++ [(a.getD i 0 + b.getD i 0 + c) % 4294967296]) (i + 1) ((a.getD i 0 + b.getD i 0 + c) / 4294967296) := by
  obtain ⟨h1, h2, h3, h4⟩ := h
  have hx := ha.getD i
  have hy := hb.getD i
  have ea := nv_take_getD a i
  have eb := nv_take_getD b i
  unfold RAddInv
  rw [ea, eb]
  clear ea eb
  generalize a.getD i 0 = x at *
  generalize b.getD i 0 = y at *
  rw [B_eq] at hx hy
  refine ⟨by simp [h1], h2.append (Dig.cons (by rw [B_eq]; exact Nat.mod_lt _ (by decide)) Dig.nil), by omega, ?_⟩
  rw [nv_snoc, h1, Nat.pow_succ, Nat.mul_assoc]
  have e : (x + y + c) % 4294967296 + B * ((x + y + c) / 4294967296) = x + y + c := by rw [B_eq]; omega
  have e2 : B ^ i * ((x + y + c) % 4294967296) + B ^ i * (B * ((x + y + c) / 4294967296)) = B ^ i * x + B ^ i * y + B ^ i * c := by rw [<- Nat.mul_add, e, Nat.mul_add, Nat.mul_add]
  omega
theorem RAddInv.done {a b o : List Nat} {c m : Nat} (h : RAddInv a b o (m + 1) c) (ha : Dig a) (hb : Dig b) (hal : a.length <= m) (hbl : b.length <= m) : nv o = nv a + nv b := by
  obtain ⟨h1, h2, h3, h4⟩ := h
  rw [List.take_of_length_le (by omega), List.take_of_length_le (by omega)] at h4
  have ha1 := Nat.lt_of_lt_of_le (nv_lt ha) (Nat.pow_le_pow_right B_pos hal)
  have hb1 := Nat.lt_of_lt_of_le (nv_lt hb) (Nat.pow_le_pow_right B_pos hbl)
  rw [Nat.pow_succ] at h4
  have hc : c = 0 := by
    rcases Nat.eq_zero_or_pos c with h | h
    · exact h
    · exfalso
      have h5 : B ^ m * B <= B ^ m * B * c := Nat.le_mul_of_pos_right _ h
      generalize B ^ m = p at *
      rw [B_eq] at h5 h4
      omega
  subst hc
  simpa using h4
end Go.Lim
namespace Go.Lim
theorem canon_len0 {l : List Nat} {n : Nat} (h : Canon l n) : l.length = 0 ↔ n = 0 := by
  rw [<- canon_nil_iff h]; exact List.length_eq_zero_iff
def validZ (s : Bool) (m : List Nat) : Bool := validL m && (decide (0 < m.length) || !s)
noncomputable def zval (s : Bool) (m : List Nat) : Int := if validZ s m then (if s then -(nv m : Int) else nv m) else 0
def CanZ (s : Bool) (m : List Nat) (z : Int) : Prop := s = decide (z < 0) /\ Canon m z.natAbs
theorem CanZ.of_valid {s : Bool} {m : List Nat} (hd : Dig m) (h : validZ s m = true) : CanZ s m (zval s m) := by
  have hv : validL m = true := by unfold validZ at h; simp at h; exact h.1
  have hc : Canon m (nv m) := ⟨hd, hv, rfl⟩
  have h0 := canon_len0 hc
  unfold zval
  rw [if_pos h]
  cases s
  · simp only [Bool.false_eq_true, if_false]
    exact ⟨by simp, by simpa using hc⟩
  · have hm : 0 < m.length := by unfold validZ at h; simpa [hv] using h
    simp only [if_true]
    refine ⟨?_, by simpa using hc⟩
    have : nv m ≠ 0 := fun e => by rw [e] at h0; simp at h0; simp [h0] at hm
    symm; rw [decide_eq_true_eq]; omega
theorem CanZ.valid {s : Bool} {m : List Nat} {z : Int} (h : CanZ s m z) : validZ s m = true := by
  obtain ⟨hs, hm⟩ := h
  have h0 := canon_len0 hm
  unfold validZ
  rw [hm.2.1]
  by_cases hz : z < 0
  · have : 0 < m.length := by omega
    simp [this]
  · simp [hs, hz]
theorem CanZ.val {s : Bool} {m : List Nat} {z : Int} (h : CanZ s m z) : zval s m = z := by
  unfold zval
  rw [if_pos h.valid]
  obtain ⟨hs, hm⟩ := h
  rw [hm.2.2]
  by_cases hz : z < 0
  · simp only [hs, hz, decide_true, if_true]; omega
  · simp only [hs, hz, decide_false, Bool.false_eq_true, if_false]; omega
theorem CanZ.zero : CanZ false [] 0 := ⟨rfl, Canon.nil⟩
theorem CanZ.len {s : Bool} {m : List Nat} {z : Int} (h : CanZ s m z) : m.length = lg z.natAbs := h.2.len
theorem CanZ.len0 {s : Bool} {m : List Nat} {z : Int} (h : CanZ s m z) : m.length = 0 ↔ z = 0 := by
  have := canon_len0 h.2; omega
theorem zval_lg (s : Bool) (m : List Nat) (h : Dig m) : lg (zval s m).natAbs <= m.length := by
  cases hv : validZ s m
  · unfold zval; rw [hv]; simp [lg_zero]
  · exact Nat.le_of_eq (CanZ.of_valid h hv).len.symm
theorem zval_invalid {s : Bool} {m : List Nat} (h : validZ s m = false) : zval s m = 0 := by unfold zval; rw [h]; rfl
def dn (q : Rat) : Nat := if q.den = 1 then 0 else q.den
def CanQ (s : Bool) (m d : List Nat) (q : Rat) : Prop := CanZ s m q.num /\ Canon d (dn q)
noncomputable def validQ (s : Bool) (m d : List Nat) : Bool := validZ s m && validL d && (decide (d.length = 0) || (decide (0 < m.length) && !(nv d == 1) && (Nat.gcd (nv m) (nv d) == 1)))
noncomputable def qval (s : Bool) (m d : List Nat) : Rat := if validQ s m d then mkRat (zval s m) (if d.length = 0 then 1 else nv d) else 0
theorem CanQ.of_valid {s : Bool} {m d : List Nat} (hm : Dig m) (hd : Dig d) (h : validQ s m d = true) : CanQ s m d (qval s m d) := by
  have h' := h
  unfold validQ at h'
  simp only [Bool.and_eq_true] at h'
  obtain ⟨⟨h1, h2⟩, h3⟩ := h'
  have hz := CanZ.of_valid hm h1
  have hcd : Canon d (nv d) := ⟨hd, h2, rfl⟩
  have h0 := canon_len0 hcd
  unfold qval
  rw [if_pos h]
  by_cases hl : d.length = 0
  · rw [if_pos hl]
    have e : mkRat (zval s m) 1 = ((zval s m : Int) : Rat) := by rw [<- Rat.mk_den_one]; rw [Rat.mk_eq_mkRat]
    rw [e]
    refine ⟨by simpa using hz, ?_⟩
    have : nv d = 0 := h0.1 hl
    simp only [dn, Rat.den_intCast, if_true]
    rw [this] at hcd; exact hcd
  · rw [if_neg hl]
    have hne : nv d ≠ 0 := fun e => hl (h0.2 e)
    simp [hl] at h3
    obtain ⟨⟨h4, h5⟩, h6⟩ := h3
    have habs : (zval s m).natAbs = nv m := by have := hz.2.2.2; omega
    have hg : (nv d).gcd (zval s m).natAbs = 1 := by rw [habs, Nat.gcd_comm]; exact h6
    have e1 : (mkRat (zval s m) (nv d)).num = zval s m := by rw [Rat.num_mkRat, if_neg hne, hg]; simp
    have e2 : (mkRat (zval s m) (nv d)).den = nv d := by rw [Rat.den_mkRat, if_neg hne, hg]; simp
    exact ⟨by rw [e1]; exact hz, by unfold dn; rw [e2, if_neg h5]; exact hcd⟩
theorem CanQ.valid {s : Bool} {m d : List Nat} {q : Rat} (h : CanQ s m d q) : validQ s m d = true := by
  obtain ⟨h1, h2⟩ := h
  have h3 := canon_len0 h2
  have h4 := h1.len0
  have h5 := q.reduced
  have h6 := q.den_nz
  unfold validQ
  rw [h1.valid, h2.2.1, h2.2.2, h1.2.2.2]
  by_cases hd : q.den = 1
  · have : d.length = 0 := by rw [h3]; unfold dn; rw [if_pos hd]
    simp [this]
  · have e : dn q = q.den := by unfold dn; rw [if_neg hd]
    rw [e] at h3 |-
    have hn : q.num ≠ 0 := fun e => by rw [e] at h5; simp [Nat.Coprime] at h5; exact hd h5
    have hm : 0 < m.length := by omega
    have hg : q.num.natAbs.gcd q.den = 1 := h5
    simp [hm, hd, hg]
theorem CanQ.val {s : Bool} {m d : List Nat} {q : Rat} (h : CanQ s m d q) : qval s m d = q := by
  unfold qval
  rw [if_pos h.valid]
  obtain ⟨h1, h2⟩ := h
  have h3 := canon_len0 h2
  rw [h1.val, h2.2.2]
  by_cases hd : q.den = 1
  · have : d.length = 0 := by rw [h3]; unfold dn; rw [if_pos hd]
    rw [if_pos this]
    conv => rhs; rw [<- Rat.mkRat_self q]
    rw [hd]
  · have e : dn q = q.den := by unfold dn; rw [if_neg hd]
    have hl : d.length ≠ 0 := by rw [e] at h3; have := q.den_nz; omega
    rw [if_neg hl, e, Rat.mkRat_self]
theorem CanQ.unique {s s' : Bool} {m d m' d' : List Nat} {q : Rat} (h : CanQ s m d q) (h' : CanQ s' m' d' q) : s = s' /\ m = m' /\ d = d' :=
  ⟨h.1.1.trans h'.1.1.symm, h.1.2.unique h'.1.2, h.2.unique h'.2⟩
theorem CanQ.zero : CanQ false [] [] 0 := ⟨CanZ.zero, by simp [dn]; exact Canon.nil⟩
theorem CanQ.ofInt {s : Bool} {m : List Nat} {z : Int} (h : CanZ s m z) : CanQ s m [] (z : Rat) := ⟨by simpa using h, by simp [dn]; exact Canon.nil⟩
theorem qval_invalid {s : Bool} {m d : List Nat} (h : validQ s m d = false) : qval s m d = 0 := by unfold qval; rw [h]; rfl
def hq (q : Rat) : Nat := max (lg q.num.natAbs) (lg q.den)
theorem hq_num (q : Rat) : lg q.num.natAbs <= hq q := Nat.le_max_left _ _
theorem hq_den (q : Rat) : lg q.den <= hq q := Nat.le_max_right _ _
theorem hq_dn (q : Rat) : lg (dn q) <= hq q := by
  unfold dn; split
  · simp [lg_zero]
  · exact hq_den q
theorem lg_one : lg 1 = 1 := lg_one_iff (by omega) (by omega)
theorem lg_two_pow_ge {n : Nat} (h : 0 < n) : 1 <= lg n := lg_pos h
theorem hq_pos (q : Rat) : 1 <= hq q := Nat.le_trans (lg_two_pow_ge q.den_pos) (hq_den q)
theorem hq_mkRat (z : Int) (d k : Nat) (h1 : lg z.natAbs <= k) (h2 : lg d <= k) (hk : 1 <= k) : hq (mkRat z d) <= k := by
  by_cases hd : d = 0
  · subst hd; rw [Rat.mkRat_zero]; unfold hq; simp [lg_zero, lg_one]; exact hk
  · unfold hq
    rw [Rat.num_mkRat, Rat.den_mkRat, if_neg hd, if_neg hd]
    refine Nat.max_le.2 ⟨Nat.le_trans (lg_mono ?_) h1, Nat.le_trans (lg_mono (Nat.div_le_self _ _)) h2⟩
    exact Int.natAbs_ediv_le_natAbs _ _
theorem hq_add (x y : Rat) : hq (x + y) <= hq x + hq y + 1 := by
  rw [Rat.add_def']
  refine hq_mkRat _ _ _ ?_ (Nat.le_trans (lg_mul _ _) (by have := hq_den x; have := hq_den y; omega)) (by omega)
  refine Nat.le_trans (lg_mono (Int.natAbs_add_le _ _)) ?_
  refine Nat.le_trans (lg_add _ _) ?_
  rw [Int.natAbs_mul, Int.natAbs_mul, Int.natAbs_natCast, Int.natAbs_natCast]
  have a1 := lg_mul x.num.natAbs y.den
  have a2 := lg_mul y.num.natAbs x.den
  have := hq_num x; have := hq_num y; have := hq_den x; have := hq_den y
  omega
theorem hq_mul (x y : Rat) : hq (x * y) <= hq x + hq y := by
  rw [Rat.mul_def']
  refine hq_mkRat _ _ _ ?_ (Nat.le_trans (lg_mul _ _) (by have := hq_den x; have := hq_den y; omega)) (by have := hq_pos x; omega)
  rw [Int.natAbs_mul]
  have := lg_mul x.num.natAbs y.num.natAbs
  have := hq_num x; have := hq_num y
  omega
theorem hq_neg (x : Rat) : hq (-x) = hq x := by unfold hq; simp
theorem hq_sub (x y : Rat) : hq (x - y) <= hq x + hq y + 1 := by
  rw [Rat.sub_eq_add_neg, <- hq_neg y]; exact hq_add _ _
theorem hq_zero : hq 0 = 1 := by unfold hq; simp [lg_zero, lg_one]
theorem hq_inv (x : Rat) : hq x⁻¹ <= hq x := by
  by_cases h : x = 0
  · subst h; simp
  · have hn : x.num ≠ 0 := fun e => h (Rat.num_eq_zero.1 e)
    unfold hq
    rw [Rat.num_inv, Rat.den_inv, if_neg hn, Int.natAbs_mul, Int.natAbs_sign_of_ne_zero hn, Nat.one_mul, Int.natAbs_natCast, Nat.max_comm]
    exact Nat.le_refl _
theorem hq_div (x y : Rat) : hq (x / y) <= hq x + hq y := by
  rw [Rat.div_def]; exact Nat.le_trans (hq_mul _ _) (by have := hq_inv y; omega)
theorem hq_int (z : Int) (k : Nat) (h : lg z.natAbs <= k) (hk : 1 <= k) : hq (z : Rat) <= k := by
  unfold hq; rw [Rat.num_intCast, Rat.den_intCast, lg_one]; exact Nat.max_le.2 ⟨h, hk⟩
theorem qval_hq (s : Bool) (m d : List Nat) (k : Nat) (hm : Dig m) (hd : Dig d) (h1 : m.length <= k) (h2 : d.length <= k) (hk : 1 <= k) : hq (qval s m d) <= k := by
  cases hv : validQ s m d
  · rw [qval_invalid hv, hq_zero]; exact hk
  · have hc := CanQ.of_valid hm hd hv
    have e1 := hc.1.len
    have e2 := hc.2.len
    unfold hq
    refine Nat.max_le.2 ⟨by omega, ?_⟩
    unfold dn at e2
    split at e2
    · rename_i h; rw [h, lg_one]; exact hk
    · omega
theorem CanQ.lowest {s : Bool} {n d : List Nat} {z : Int} {k : Nat} (hk : k ≠ 0) (hs : s = decide (z < 0)) (hn : Canon n (z.natAbs / Nat.gcd z.natAbs k)) (hd : Canon d (k / Nat.gcd z.natAbs k)) : CanQ s n (if k / Nat.gcd z.natAbs k = 1 then [] else d) (mkRat z k) := by
  have hg : 0 < Nat.gcd z.natAbs k := Nat.gcd_pos_of_pos_right _ (by omega)
  have e1 : (mkRat z k).num = z / (Nat.gcd z.natAbs k : Nat) := by rw [Rat.num_mkRat, if_neg hk, Nat.gcd_comm]
  have e2 : (mkRat z k).den = k / Nat.gcd z.natAbs k := by rw [Rat.den_mkRat, if_neg hk, Nat.gcd_comm]
  have hdv : ((Nat.gcd z.natAbs k : Nat) : Int) ∣ z := Int.ofNat_dvd_left.2 (Nat.gcd_dvd_left _ _)
  have e3 : (mkRat z k).num.natAbs = z.natAbs / Nat.gcd z.natAbs k := by rw [e1, Int.natAbs_ediv_of_dvd hdv, Int.natAbs_natCast]
  refine ⟨⟨?_, by rw [e3]; exact hn⟩, ?_⟩
  · rw [hs, Bool.eq_iff_iff]
    simp only [decide_eq_true_eq]
    rw [e1]
    obtain ⟨g, hgg⟩ : ∃ g, Nat.gcd z.natAbs k = g := ⟨_, rfl⟩
    rw [hgg] at hdv hg |-
    obtain ⟨c, rfl⟩ := hdv
    rw [Int.mul_ediv_cancel_left _ (by omega)]
    constructor
    · intro h
      by_cases h0 : c < 0
      · exact h0
      · have := Int.mul_nonneg (Int.natCast_nonneg g) (show 0 <= c by omega); omega
    · intro h
      exact Int.mul_neg_of_pos_of_neg (by omega) h
  · unfold dn
    rw [e2]
    split
    · exact Canon.nil
    · exact hd
end Go.Lim
namespace Go.Lin
open Go.Lim
def HB (B : Nat) (m : Mat) : Prop := ∀ i j, hq (ent m i j) <= B
theorem HB.pos {B : Nat} {m : Mat} (h : HB B m) : 1 <= B := Nat.le_trans (hq_pos _) (h 0 0)
theorem HB.mono {B C : Nat} {m : Mat} (h : HB B m) (hBC : B <= C) : HB C m := fun i j => Nat.le_trans (h i j) hBC
theorem HB.swap {n c B : Nat} {m : Mat} (h : HB B m) (hs : Shp n c m) {i k : Nat} (hi : i < n) (hk : k < n) : HB B (swapL m i k) := fun r j => by
  rw [ent_swap hs hi hk]; split
  · exact h _ _
  · split
    · exact h _ _
    · exact h _ _
theorem hq_elim {x y z u : Rat} {B : Nat} (hx : hq x <= B) (hy : hq y <= B) (hz : hq z <= B) (hu : hq u <= B) : hq (y / z) <= 2 * B /\ hq (y / z * u) <= 3 * B /\ hq (x - y / z * u) <= 5 * B := by
  have h1 := hq_div y z
  have h2 := hq_mul (y / z) u
  have h3 := hq_sub x (y / z * u)
  have h4 := hq_pos x
  omega
theorem HB.clear {n c B : Nat} {m : Mat} (h : HB B m) (hs : Shp n c m) {t : Nat} (ht : t < n) (col s : Nat) : HB (5 * B) (clear m t col s) := fun i j => by
  rw [ent_clear hs ht]; split
  · exact (hq_elim (h _ _) (h _ _) (h _ _) (h _ _)).2.2
  · have := h i j; omega
theorem HB.eN {n c B : Nat} {m : Mat} (h : HB B m) (hs : Shp n c m) (k : Nat) : HB (5 ^ (eN m k).2.1.length * B) (eN m k).1 := by
  induction k with
  | zero => simpa [Lin.eN] using h
  | succ k ih =>
    have hk := eN_ok hs k
    show HB (5 ^ (eStep (Lin.eN m k) k).2.1.length * B) (eStep (Lin.eN m k) k).1
    generalize Lin.eN m k = s at ih hk |-
    obtain ⟨M, p, odd⟩ := s
    have hM : Shp n c M := hk.shp
    have hl := hM.1
    have hle : p.length <= n := hk.ech.le
    unfold eStep
    dsimp only at ih |-
    split
    · exact ih
    · split
      · exact ih
      · rename_i e _ q hz
        obtain ⟨h1, h2⟩ := nzAt_some hz
        have := (ih.swap hM (show p.length < n by omega) (show p.length + q < n by omega)).clear (hM.swap (by omega) (by omega)) (show p.length < n by omega) k M.length
        refine this.mono ?_
        rw [List.length_append, List.length_singleton, Nat.pow_succ, Nat.mul_comm _ 5, Nat.mul_assoc]; exact Nat.le_refl _
theorem HB.divL {n c B : Nat} {m : Mat} (h : HB B m) (hs : Shp n c m) {i : Nat} (hi : i < n) (col : Nat) : HB (2 * B) (divL m i col) := fun k j => by
  rw [ent_divL hs hi]; split
  · have := hq_div (ent m i j) (ent m i col); have := h i j; have := h i col; omega
  · have := h k j; omega
theorem hq_elim2 {x y z u : Rat} {B : Nat} (hx : hq x <= B) (hy : hq y <= B) (hz : hq z <= 2 * B) (hu : hq u <= 2 * B) : hq (y / z) <= 3 * B /\ hq (y / z * u) <= 5 * B /\ hq (x - y / z * u) <= 7 * B := by
  have h1 := hq_div y z
  have h2 := hq_mul (y / z) u
  have h3 := hq_sub x (y / z * u)
  have h4 := hq_pos x
  omega
theorem HB.dStep {n c B : Nat} {m : Mat} (h : HB B m) (hs : Shp n c m) {t : Nat} (ht : t < n) (col s : Nat) : HB (7 * B) (above (Lin.divL m t col) t col s) := fun i j => by
  have hd := hs.divL ht col
  have h2 := h.divL hs ht col
  rw [ent_above hd ht]; split
  · refine (hq_elim2 ?_ ?_ (h2 _ _) (h2 _ _)).2.2
    · rw [ent_divL hs ht, if_neg (by omega)]; exact h _ _
    · rw [ent_divL hs ht, if_neg (by omega)]; exact h _ _
  · have := h2 i j; omega
theorem HB.dN {n c B : Nat} {m : Mat} {p : List Nat} (h : HB B m) (hs : Shp n c m) (he : Ech n c (ent m) p) (t : Nat) (ht : t <= p.length) : HB (7 ^ t * B) (dN m p t) := by
  induction t with
  | zero => simpa [Lin.dN] using h
  | succ t ih =>
    have hk := dN_ok hs he t (by omega)
    have hle := he.le
    refine ((ih (by omega)).dStep hk.shp (show t < n by omega) (p.getD t 0) t).mono ?_
    rw [Nat.pow_succ, Nat.mul_comm _ 7, Nat.mul_assoc]; exact Nat.le_refl _
theorem HB.pv {n c B : Nat} {m : Mat} (h : HB B m) (hs : Shp n c m) {i : Nat} (hi : i < n) (col : Nat) : HB (3 * B) (pv m i col) := fun k j => by
  rw [ent_pv hs hi]; split
  · have h1 := hq_mul (ent m i j) (1 / ent m i col); have h2 := hq_div 1 (ent m i col); have := h i j; have := h i col; have := hq_pos (ent m i j)
    have h3 : hq 1 = 1 := by decide +kernel
    omega
  · have := h k j; omega
theorem HB.out {n c B : Nat} {m : Mat} (h : HB B m) (hs : Shp n c m) {t : Nat} (ht : t < n) (col s : Nat) : HB (6 * B) (Lin.out (Lin.pv m t col) t col s) := fun i j => by
  have hd := hs.pv ht col
  have h2 := h.pv hs ht col
  rw [ent_outm hd ht]; split
  · rename_i a
    have e : ∀ j, ent (Lin.pv m t col) i j = ent m i j := fun j => by rw [ent_pv hs ht, if_neg a.1]
    rw [e, e]
    have h3 := hq_mul (ent (Lin.pv m t col) t j) (- ent m i col)
    have h4 := hq_add (ent m i j) (ent (Lin.pv m t col) t j * - ent m i col)
    rw [hq_neg] at h3
    have := h2 t j; have := h i j; have := h i col; have := h.pos
    omega
  · have := h2 i j; omega
end Go.Lin
namespace Go.Lin
open Go.Lim
def Tame (m : Mat) (c : Nat) : Prop := ∃ B, 7 * B <= 68719476736 /\ (∀ j, j <= c -> HB B (eN m j).1) /\ ∀ t, t <= (eN m c).2.1.length -> HB B (dN (eN m c).1 (eN m c).2.1 t)
def TameE (m : Mat) (c : Nat) : Prop := ∃ B, 7 * B <= 68719476736 /\ ∀ j, j <= c -> HB B (eN m j).1
theorem Tame.e {m : Mat} {c : Nat} (h : Tame m c) : TameE m c := let ⟨B, h1, h2, _⟩ := h; ⟨B, h1, h2⟩
end Go.Lin
namespace Go.Lin
open Go.Lim
end Go.Lin
namespace Go.Rep
open Go.RowKit
def lenOf : Value -> Nat | .slice _ n _ => n | _ => 0
theorem hid {p : Prop} (h : p) : Hid p := h
theorem ret_slice {a : Option Addr} {n m c : Nat} (h : n = m) : Ending.returned (.slice a n c) = .returned (.slice a m c) := by rw [h]
theorem ret_int {k : IntKind} {a b : Int} (h : a = b) : Ending.returned (.int k a) = .returned (.int k b) := by rw [h]
theorem ret_bool {a b : Bool} (h : a = b) : Ending.returned (.bool a) = .returned (.bool b) := by rw [h]
theorem cast_bne0 (n : Nat) : ((n : Int) != 0) = (n != 0) := by rw [Bool.eq_iff_iff]; simp
theorem cast_mod32 (n : Nat) (h : n < 4294967296) : (n : Int) % 4294967296 = n := by omega
theorem beqF {a b : Int} (h : a ≠ b) : (a == b) = false := by simpa using h
theorem bneF {a b : Int} (h : a = b) : (a != b) = false := by simpa using h
theorem beqT {a b : Int} (h : a = b) : (a == b) = true := by simpa using h
theorem bneT {a b : Int} (h : a ≠ b) : (a != b) = true := by simpa using h
abbrev Mem := Addr -> Option Value
def Le (h h' : Mem) : Prop := ∀ a u, h a = some u -> h' a = some u
theorem Le.refl (h : Mem) : Le h h := fun _ _ x => x
theorem Le.trans {a b c : Mem} (h : Le a b) (k : Le b c) : Le a c := fun x u e => k x u (h x u e)
theorem cell_lt {w : World} {a : Addr} {u : Value} (h : w.cell? a = some u) : a.block < w.heap.size := by
  unfold World.cell? at h
  by_cases hl : a.block < w.heap.size
  · exact hl
  · rw [Array.getElem?_eq_none (by omega)] at h; simp at h
structure ExtX (Y : Nat -> Bool) (w w' : World) : Prop where
  os : w'.os = w.os
  tape : w'.tape = w.tape
  output : w'.output = w.output
  size : w.heap.size <= w'.heap.size
  block : ∀ k, k < w.heap.size -> Y k = false -> w'.heap[k]? = w.heap[k]?
def noY : Nat -> Bool := fun _ => false
abbrev Ext (w w' : World) : Prop := ExtX noY w w'
theorem ExtX.refl {Y : Nat -> Bool} (w : World) : ExtX Y w w := ⟨rfl, rfl, rfl, Nat.le_refl _, fun _ _ _ => rfl⟩
theorem ExtX.trans {Y : Nat -> Bool} {a b c : World} (h : ExtX Y a b) (k : ExtX Y b c) : ExtX Y a c :=
  ⟨k.os.trans h.os, k.tape.trans h.tape, k.output.trans h.output, Nat.le_trans h.size k.size, fun i hi hy => (k.block i (Nat.lt_of_lt_of_le hi h.size) hy).trans (h.block i hi hy)⟩
theorem ExtX.weaken {Y Z : Nat -> Bool} {a b : World} (h : ExtX Y a b) (hz : ∀ k, k < a.heap.size -> Z k = false -> Y k = false) : ExtX Z a b :=
  ⟨h.os, h.tape, h.output, h.size, fun k hk hy => h.block k hk (hz k hk hy)⟩
theorem ExtX.of {Y : Nat -> Bool} {a b : World} (h : Ext a b) : ExtX Y a b := h.weaken fun _ _ _ => rfl
theorem ExtX.alloc {Y : Nat -> Bool} {a w : World} (h : ExtX Y a w) (o : Obj) : ExtX Y a (w.alloc o) :=
  h.trans ⟨rfl, rfl, rfl, by simp, fun k hk _ => Below.heap_alloc _ _ _ hk⟩
theorem ExtX.drew {Y : Nat -> Bool} {a w : World} (h : ExtX Y a w) : ExtX Y a w.drew := ⟨h.os, h.tape, h.output, h.size, h.block⟩
theorem ExtX.drewN {Y : Nat -> Bool} {a w : World} (h : ExtX Y a w) (n : Nat) : ExtX Y a (w.drewN n) := ⟨h.os, h.tape, h.output, h.size, h.block⟩
theorem ExtX.then_ {Y Z : Nat -> Bool} {a b c : World} (h : ExtX Y a b) (k : ExtX Z b c) (hz : ∀ i, i < a.heap.size -> Y i = false -> Z i = false) : ExtX Y a c :=
  ⟨k.os.trans h.os, k.tape.trans h.tape, k.output.trans h.output, Nat.le_trans h.size k.size, fun i hi hy => (k.block i (Nat.lt_of_lt_of_le hi h.size) (hz i hi hy)).trans (h.block i hi hy)⟩
theorem ExtX.below {w w' : World} (h : Ext w w') : Below w.heap.size w w' := ⟨h.os, h.tape, h.output, h.size, fun k hk => h.block k hk rfl⟩
def mk (X : Nat -> Bool) (w : World) : Mem := fun a => if X a.block then none else w.cell? a
theorem mk_cell {X : Nat -> Bool} {w : World} {a : Addr} {u : Value} (h : mk X w a = some u) : w.cell? a = some u := by
  unfold mk at h; split at h
  · simp at h
  · exact h
theorem mk_le (X : Nat -> Bool) (w : World) : Le (mk X w) w.cell? := fun _ _ h => mk_cell h
theorem mk_noY (w : World) : mk noY w = w.cell? := by funext a; simp [mk, noY]
theorem mk_mono {X Y : Nat -> Bool} {w w' : World} (h : ExtX Y w w') (hY : ∀ k, Y k = true -> X k = true) : Le (mk X w) (mk X w') := by
  intro a u e
  have hc := mk_cell e
  have hl := cell_lt hc
  unfold mk at e |-
  by_cases hx : X a.block = true
  · simp [hx] at e
  · rw [if_neg hx]
    have hy : Y a.block = false := by
      cases hh : Y a.block
      · rfl
      · exact absurd (hY _ hh) hx
    rw [World.cell?_of_block (h.block a.block hl hy)]; exact hc
theorem mk_ext {X : Nat -> Bool} {w w' : World} (h : Ext w w') : Le (mk X w) (mk X w') := mk_mono h (fun k hk => by simp [noY] at hk)
theorem mk_sub {X Z : Nat -> Bool} {w : World} (h : ∀ k, k < w.heap.size -> X k = true -> Z k = true) : Le (mk Z w) (mk X w) := by
  intro a u e
  have hl := cell_lt (mk_cell e)
  have hc := mk_cell e
  unfold mk at e |-
  by_cases hx : X a.block = true
  · simp [h _ hl hx] at e
  · rw [if_neg hx]; exact hc
theorem mk_over {X Y Z : Nat -> Bool} {w w' : World} (h : ExtX Y w w') (hY : ∀ k, k < w.heap.size -> Y k = true -> X k = true) (hZ : ∀ k, k < w.heap.size -> Z k = true -> X k = true) : Le (mk X w) (mk Z w') := by
  intro a u e
  have hc := mk_cell e
  have hl := cell_lt hc
  unfold mk at e |-
  by_cases hx : X a.block = true
  · simp [hx] at e
  · have hz : ¬ Z a.block = true := fun hz => hx (hZ _ hl hz)
    rw [if_neg hz]
    have hy : Y a.block = false := by
      cases hh : Y a.block
      · rfl
      · exact absurd (hY _ hl hh) hx
    rw [World.cell?_of_block (h.block a.block hl hy)]; exact hc
theorem ExtX.cell {w w' : World} (h : Ext w w') {a : Addr} {u : Value} (hc : w.cell? a = some u) : w'.cell? a = some u := by
  have := mk_ext (X := noY) h a u (by rw [mk_noY]; exact hc)
  rwa [mk_noY] at this
theorem ExtX.cellY {Y : Nat -> Bool} {w w' : World} (h : ExtX Y w w') {a : Addr} {u : Value} (hc : w.cell? a = some u) (hy : Y a.block = false) : w'.cell? a = some u := by
  rw [World.cell?_of_block (h.block a.block (cell_lt hc) hy)]; exact hc
theorem cell_new {w : World} {cs : Array Value} {e : TypeId} (j : Nat) {u : Value} (h : cs[j]? = some u) : (w.alloc (.cells cs e)).cell? ⟨w.heap.size, j, none⟩ = some u := by
  unfold World.cell?
  rw [heap_alloc_new w]
  simpa using h
def ob (ao : Option Addr) : Nat -> Bool := fun k => match ao with | some a => a.block == k | none => false
def un (X : Nat -> Bool) (ao : Option Addr) : Nat -> Bool := fun k => X k || ob ao k
theorem un_left {X : Nat -> Bool} {ao : Option Addr} {k : Nat} (h : X k = true) : un X ao k = true := by simp [un, h]
theorem un_right {X : Nat -> Bool} {ao : Option Addr} {k : Nat} (h : ob ao k = true) : un X ao k = true := by simp [un, h]
def adr (ao : Option Addr) (k : Nat) : Addr := ⟨(ao.getD ⟨0, 0, none⟩).block, (ao.getD ⟨0, 0, none⟩).off + k, none⟩
@[go_sem] theorem adr_add (ao : Option Addr) (k j : Nat) : (adr ao k).add j = adr ao (k + j) := by
  unfold adr; rw [Addr.add_lit, Nat.add_assoc]
theorem adr_some (b o k : Nat) : adr (some ⟨b, o, none⟩) k = ⟨b, o + k, none⟩ := rfl
def Hd (ao : Option Addr) (n : Nat) : Prop := 0 < n -> ∃ b off, ao = some ⟨b, off, none⟩
def Sl {α : Type} (R : Mem -> Value -> α -> Prop) (sz : Nat) (h : Mem) (ao : Option Addr) (l : List α) : Prop :=
  Hd ao l.length /\ ∀ i (hi : i < l.length), ∃ u : Value, u.cells.size = sz /\ (∀ j (hj : j < u.cells.size), h (adr ao (i * sz + j)) = some u.cells[j]) /\ R h u l[i]
def Mono {α : Type} (R : Mem -> Value -> α -> Prop) : Prop := ∀ (h h' : Mem) (u : Value) (x : α), Le h h' -> R h u x -> R h' u x
def OneCell {α : Type} (R : Mem -> Value -> α -> Prop) : Prop := ∀ (h : Mem) (u : Value) (x : α), R h u x -> u.cells = #[u]
theorem Sl.hd {α : Type} {R : Mem -> Value -> α -> Prop} {sz : Nat} {h : Mem} {ao : Option Addr} {l : List α} (s : Sl R sz h ao l) : Hd ao l.length := s.1
theorem Sl.mono {α : Type} {R : Mem -> Value -> α -> Prop} (hR : Mono R) {sz : Nat} {h h' : Mem} {ao : Option Addr} {l : List α} (hl : Le h h') (s : Sl R sz h ao l) : Sl R sz h' ao l := by
  refine ⟨s.1, fun i hi => ?_⟩
  obtain ⟨u, h1, h2, h3⟩ := s.2 i hi
  exact ⟨u, h1, fun j hj => hl _ _ (h2 j hj), hR _ _ _ _ hl h3⟩
theorem Sl.nil {α : Type} (R : Mem -> Value -> α -> Prop) (sz : Nat) (h : Mem) (ao : Option Addr) : Sl R sz h ao [] :=
  ⟨fun h => by simp at h, fun i hi => by simp at hi⟩
theorem Sl.take {α : Type} {R : Mem -> Value -> α -> Prop} {sz : Nat} {h : Mem} {ao : Option Addr} {l : List α} (s : Sl R sz h ao l) (n : Nat) : Sl R sz h ao (l.take n) := by
  refine ⟨fun hn => s.1 (by simp at hn; omega), fun i hi => ?_⟩
  have hi' : i < l.length := by simp at hi; omega
  obtain ⟨u, h1, h2, h3⟩ := s.2 i hi'
  exact ⟨u, h1, h2, by simpa using h3⟩
def SlV {α : Type} (R : Mem -> Value -> α -> Prop) (sz : Nat) (h : Mem) (v : Value) (l : List α) : Prop :=
  ∃ ao cap, v = .slice ao l.length cap /\ l.length <= cap /\ Sl R sz h ao l
theorem SlV.mono {α : Type} {R : Mem -> Value -> α -> Prop} (hR : Mono R) (sz : Nat) : Mono (SlV R sz) := by
  rintro h h' u x hl ⟨ao, cap, rfl, hc, hs⟩
  exact ⟨ao, cap, rfl, hc, hs.mono hR hl⟩
theorem SlV.one {α : Type} {R : Mem -> Value -> α -> Prop} {sz : Nat} : OneCell (SlV R sz) := by
  rintro h u x ⟨ao, cap, rfl, _⟩; rfl
theorem SlV.zero {α : Type} (R : Mem -> Value -> α -> Prop) (sz : Nat) (h : Mem) : SlV R sz h (.slice none 0 0) [] :=
  ⟨none, 0, rfl, Nat.le_refl _, Sl.nil _ _ _ _⟩
def NatIn (k : IntKind) : Mem -> Value -> Nat -> Prop := fun _ u x => u = .int k (x : Int)
theorem NatIn.mono (k : IntKind) : Mono (NatIn k) := fun _ _ _ _ _ h => h
theorem NatIn.one (k : IntKind) : OneCell (NatIn k) := by rintro h u x rfl; rfl
def IntIn (k : IntKind) : Mem -> Value -> Int -> Prop := fun _ u x => u = .int k x
theorem IntIn.mono (k : IntKind) : Mono (IntIn k) := fun _ _ _ _ _ h => h
theorem IntIn.one (k : IntKind) : OneCell (IntIn k) := by rintro h u x rfl; rfl
theorem Sl.cell {α : Type} {R : Mem -> Value -> α -> Prop} {h : Mem} {ao : Option Addr} {l : List α} (s : Sl R 1 h ao l) (h1 : OneCell R) (i : Nat) (hi : i < l.length) :
    ∃ u, h (adr ao i) = some u /\ R h u l[i] := by
  obtain ⟨u, _, h2, h3⟩ := s.2 i hi
  have hc := h1 _ _ _ h3
  have h4 := h2 0 (by rw [hc]; exact Nat.one_pos)
  refine ⟨u, ?_, h3⟩
  rw [Nat.mul_one, Nat.add_zero] at h4
  rw [h4]
  simp [hc]
theorem Sl.nat {k : IntKind} {X : Nat -> Bool} {w : World} {ao : Option Addr} {l : List Nat} (s : Sl (NatIn k) 1 (mk X w) ao l) (i : Nat) (hi : i < l.length) : w.cell? (adr ao i) = some (.int k (l[i] : Int)) := by
  obtain ⟨u, h1, rfl⟩ := s.cell (NatIn.one k) i hi
  exact mk_cell h1
theorem Sl.int {k : IntKind} {X : Nat -> Bool} {w : World} {ao : Option Addr} {l : List Int} (s : Sl (IntIn k) 1 (mk X w) ao l) (i : Nat) (hi : i < l.length) : w.cell? (adr ao i) = some (.int k l[i]) := by
  obtain ⟨u, h1, rfl⟩ := s.cell (IntIn.one k) i hi
  exact mk_cell h1
theorem Sl.slice {α : Type} {R : Mem -> Value -> α -> Prop} {sz : Nat} {X : Nat -> Bool} {w : World} {ao : Option Addr} {l : List (List α)} (s : Sl (SlV R sz) 1 (mk X w) ao l) (i : Nat) (hi : i < l.length) :
    ∃ a c, w.cell? (adr ao i) = some (.slice a l[i].length c) /\ l[i].length <= c /\ Sl R sz (mk X w) a l[i] := by
  obtain ⟨u, h1, a, c, rfl, h2, h3⟩ := s.cell SlV.one i hi
  exact ⟨a, c, mk_cell h1, h2, h3⟩
structure SliceT (P : Program) (t e sz by_ : Nat) (z : Value) : Prop where
  und : P.underlying t = some (.slice e)
  info : (P.info? e).map (fun i => (i.zero, i.size, i.bytes)) = some (some z, sz, by_)
def TyI (P : Program) (t sz : Nat) : Prop := ∃ ti, P.info? t = some ti /\ ti.size = sz
section
variable {P : Program} {ops : Array Oper} {Q : Exit -> Act -> World -> Prop} {rest : List Oper} {a : Act} {w : World}
theorem run_indexAt_adr {t e sz by_ : Nat} {z : Value} (T : SliceT P t e sz by_ z) (ao : Option Addr) (len cap : Nat) (k : IntKind) (n : Nat)
    (hb : Hd ao len) (hn : n < len) (w : World) :
    (Instr.indexAt t (.slice ao len cap) (.int k (n : Int))).run P w = .ok (.pointer (some (adr ao (n * sz)))) w := by
  obtain ⟨i, hi, hz, hsz, hby⟩ := info_parts T.info
  obtain ⟨b, off, rfl⟩ := hb (by omega)
  subst hsz
  have e : (⟨b, off, none⟩ : Addr).add (n * i.size) = ⟨b, off + n * i.size, none⟩ := Addr.add_lit _ _ _
  simp [Instr.indexAt, asIntOf, Sem.run_bind, run_underlying T.und, Result.andThen, hn, sizeOf, typeInfo, hi, adr, e]
theorem run_ix1 {t e by_ : Nat} {z : Value} (T : SliceT P t e 1 by_ z) (ao : Option Addr) (len cap : Nat) (k : IntKind) (n : Nat) {m : Int} (hb : Hd ao len) (hn : n < len) (hm : m = (n : Int)) (w : World) :
    (Instr.indexAt t (.slice ao len cap) (.int k m)).run P w = .ok (.pointer (some (adr ao n))) w := by
  subst hm
  rw [run_indexAt_adr (P := P) T ao len cap k n hb hn w, Nat.mul_one]
theorem up_ix1 {o : Oper} {K : Act -> World -> Prop} {t e by_ : Nat} {z : Value} (T : SliceT P t e 1 by_ z) {ao : Option Addr} {len cap : Nat} {k : IntKind} {m : Int}
    (h0 : 0 <= m /\ m < (len : Int)) (hb : Hd ao len) (h : K (a.put o.dst (.pointer (some (adr ao m.toNat)))) w) :
    o.upon P a K Q ((Sem.run P (Instr.indexAt t (.slice ao len cap) (.int k m)) w).andThen fun v w => .ok (.value v) w) := by
  obtain ⟨n, rfl⟩ := Int.eq_ofNat_of_zero_le h0.1
  rw [run_indexAt_adr (P := P) T ao len cap k n hb (by omega) w, Nat.mul_one]
  exact h
theorem up_ixn {o : Oper} {K : Act -> World -> Prop} {t e sz by_ : Nat} {z : Value} (T : SliceT P t e sz by_ z) {ao : Option Addr} {len cap : Nat} {k : IntKind} {m : Int}
    (h0 : 0 <= m /\ m < (len : Int)) (hb : Hd ao len) (h : K (a.put o.dst (.pointer (some (adr ao (m.toNat * sz))))) w) :
    o.upon P a K Q ((Sem.run P (Instr.indexAt t (.slice ao len cap) (.int k m)) w).andThen fun v w => .ok (.value v) w) := by
  obtain ⟨n, rfl⟩ := Int.eq_ofNat_of_zero_le h0.1
  rw [run_indexAt_adr (P := P) T ao len cap k n hb (by omega) w]
  exact h
end
end Go.Rep
