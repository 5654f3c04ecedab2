/- Parts of a proof: each theorem states what it proves, and its conditions. -/
namespace Go.Lin
def sm : Nat -> (Nat -> Rat) -> Rat
  | 0, _ => 0
  | n + 1, f => sm n f + f n
theorem sm_congr {n : Nat} {f g : Nat -> Rat} (h : ∀ i, i < n -> f i = g i) : sm n f = sm n g := by
  induction n with
  | zero => rfl
  | succ n ih => unfold sm; rw [ih fun i hi => h i (by omega), h n (by omega)]
theorem sm_zero {n : Nat} {f : Nat -> Rat} (h : ∀ i, i < n -> f i = 0) : sm n f = 0 := by
  induction n with
  | zero => rfl
  | succ n ih => unfold sm; rw [ih fun i hi => h i (by omega), h n (by omega)]; grind
theorem sm_add (n : Nat) (f g : Nat -> Rat) : sm n (fun i => f i + g i) = sm n f + sm n g := by
  induction n with
  | zero => unfold sm; grind
  | succ n ih => unfold sm; rw [ih]; grind
theorem sm_mul (n : Nat) (a : Rat) (f : Nat -> Rat) : sm n (fun i => a * f i) = a * sm n f := by
  induction n with
  | zero => unfold sm; grind
  | succ n ih => unfold sm; rw [ih]; grind
theorem sm_comm (n m : Nat) (f : Nat -> Nat -> Rat) : sm n (fun i => sm m (fun j => f i j)) = sm m (fun j => sm n (fun i => f i j)) := by
  induction n with
  | zero => simp only [sm]; rw [sm_zero]; intros; rfl
  | succ n ih => simp only [sm]; rw [ih, sm_add]
theorem sm_one {n : Nat} {f : Nat -> Rat} (k : Nat) (hk : k < n) (h : ∀ i, i < n -> i ≠ k -> f i = 0) : sm n f = f k := by
  induction n with
  | zero => omega
  | succ n ih =>
    unfold sm
    by_cases e : k = n
    · subst e; rw [sm_zero fun i hi => h i (by omega) (by omega)]; grind
    · rw [ih (by omega) fun i hi hik => h i (by omega) hik, h n (by omega) (by omega)]; grind
theorem sm_sub (n : Nat) (f g : Nat -> Rat) : sm n (fun i => f i - g i) = sm n f - sm n g := by
  induction n with
  | zero => unfold sm; grind
  | succ n ih => unfold sm; rw [ih]; grind
theorem sm_one' {n : Nat} {f g : Nat -> Rat} (k : Nat) (hk : k < n) (h : ∀ i, i < n -> i ≠ k -> f i = g i) (h2 : f k = g k) : sm n f = sm n g :=
  sm_congr fun i hi => by by_cases e : i = k
                          · subst e; exact h2
                          · exact h i hi e
theorem sm_two {n : Nat} {f g : Nat -> Rat} (i k : Nat) (hi : i < n) (hk : k < n) (hik : i ≠ k) (h : ∀ r, r < n -> r ≠ i -> r ≠ k -> f r = g r) (h2 : f i + f k = g i + g k) : sm n f = sm n g := by
  have e : sm n (fun r => f r - g r) = 0 := by
    have e1 : ∀ r, r < n -> (fun r => f r - g r) r = (fun r => (if r = i then f i - g i else 0) + (if r = k then f k - g k else 0)) r := by
      intro r hr
      show f r - g r = _
      by_cases a : r = i
      · subst a; simp [hik]; grind
      · by_cases b : r = k
        · subst b; simp [a]; grind
        · simp [a, b]; rw [h r hr a b]; grind
    rw [sm_congr e1, sm_add, sm_one i hi (fun r _ hr => by simp [hr]), sm_one k hk (fun r _ hr => by simp [hr])]
    simp; grind
  rw [sm_sub] at e; grind
abbrev F2 := Nat -> Nat -> Rat
def Eqm (n c : Nat) (f g : F2) : Prop := ∀ i, i < n -> ∀ j, j < c -> f i j = g i j
def Nul (n c : Nat) (f : F2) (x : Nat -> Rat) : Prop := ∀ i, i < n -> sm c (fun j => f i j * x j) = 0
inductive RE (n c : Nat) : F2 -> F2 -> Rat -> Prop
  | same {f g : F2} (h : Eqm n c f g) : RE n c f g 1
  | swap {f g : F2} (i k : Nat) (hi : i < n) (hk : k < n) (hik : i ≠ k) (h1 : ∀ j, j < c -> g i j = f k j) (h2 : ∀ j, j < c -> g k j = f i j) (h3 : ∀ r, r < n -> r ≠ i -> r ≠ k -> ∀ j, j < c -> g r j = f r j) : RE n c f g (-1)
  | scale {f g : F2} (i : Nat) (a : Rat) (hi : i < n) (ha : a ≠ 0) (h1 : ∀ j, j < c -> g i j = a * f i j) (h3 : ∀ r, r < n -> r ≠ i -> ∀ j, j < c -> g r j = f r j) : RE n c f g a
  | add {f g : F2} (i k : Nat) (a : Rat) (hi : i < n) (hk : k < n) (hik : i ≠ k) (h1 : ∀ j, j < c -> g i j = f i j + a * f k j) (h3 : ∀ r, r < n -> r ≠ i -> ∀ j, j < c -> g r j = f r j) : RE n c f g 1
  | trans {f g h : F2} {a b : Rat} (h1 : RE n c f g a) (h2 : RE n c g h b) : RE n c f h (a * b)
theorem RE.nul {n c : Nat} {f g : F2} {d : Rat} (h : RE n c f g d) (x : Nat -> Rat) : Nul n c f x ↔ Nul n c g x := by
  induction h with
  | same h => 
    constructor
    · intro hn i hi; rw [<- hn i hi]; exact sm_congr fun j hj => by rw [h i hi j hj]
    · intro hn i hi; rw [<- hn i hi]; exact sm_congr fun j hj => by rw [h i hi j hj]
  | swap i k hi hk hik h1 h2 h3 =>
    constructor
    · intro hn r hr
      by_cases a : r = i
      · subst a; rw [<- hn k hk]; exact sm_congr fun j hj => by rw [h1 j hj]
      · by_cases b : r = k
        · subst b; rw [<- hn i hi]; exact sm_congr fun j hj => by rw [h2 j hj]
        · rw [<- hn r hr]; exact sm_congr fun j hj => by rw [h3 r hr a b j hj]
    · intro hn r hr
      by_cases a : r = i
      · subst a; rw [<- hn k hk]; exact sm_congr fun j hj => by rw [h2 j hj]
      · by_cases b : r = k
        · subst b; rw [<- hn i hi]; exact sm_congr fun j hj => by rw [h1 j hj]
        · rw [<- hn r hr]; exact sm_congr fun j hj => by rw [h3 r hr a b j hj]
  | @scale f g i a hi ha h1 h3 =>
    have key : sm c (fun j => g i j * x j) = a * sm c (fun j => f i j * x j) := by
      rw [<- sm_mul]; exact sm_congr fun j hj => by rw [h1 j hj]; grind
    constructor
    · intro hn r hr
      by_cases e : r = i
      · subst e; rw [key, hn r hr]; grind
      · rw [<- hn r hr]; exact sm_congr fun j hj => by rw [h3 r hr e j hj]
    · intro hn r hr
      by_cases e : r = i
      · subst e; have := hn r hr; rw [key] at this; rcases Rat.mul_eq_zero.1 this with h | h
        · contradiction
        · exact h
      · rw [<- hn r hr]; exact sm_congr fun j hj => by rw [h3 r hr e j hj]
  | @add f g i k a hi hk hik h1 h3 =>
    have key : sm c (fun j => g i j * x j) = sm c (fun j => f i j * x j) + a * sm c (fun j => f k j * x j) := by
      rw [<- sm_mul, <- sm_add]; exact sm_congr fun j hj => by rw [h1 j hj]; grind
    constructor
    · intro hn r hr
      by_cases e : r = i
      · subst e; rw [key, hn r hr, hn k hk]; grind
      · rw [<- hn r hr]; exact sm_congr fun j hj => by rw [h3 r hr e j hj]
    · intro hn r hr
      by_cases e : r = i
      · subst e
        have h4 := hn r hr; rw [key] at h4
        have h5 := hn k hk
        rw [show sm c (fun j => g k j * x j) = sm c (fun j => f k j * x j) from sm_congr fun j hj => by rw [h3 k hk (by omega) j hj]] at h5
        rw [h5] at h4; grind
      · rw [<- hn r hr]; exact sm_congr fun j hj => by rw [h3 r hr e j hj]
  | trans _ _ ih1 ih2 => exact ih1.trans ih2
def cmb (n : Nat) (f : F2) (y : Nat -> Rat) (j : Nat) : Rat := sm n fun i => y i * f i j
def LI (n c : Nat) (f : F2) : Prop := ∀ y : Nat -> Rat, (∀ j, j < c -> cmb n f y j = 0) -> ∀ i, i < n -> y i = 0
theorem RE.li {n c : Nat} {f g : F2} {d : Rat} (h : RE n c f g d) (hf : LI n c f) : LI n c g := by
  induction h with
  | same h => 
    intro y hy
    exact hf y fun j hj => by rw [<- hy j hj]; exact sm_congr fun i hi => by rw [h i hi j hj]
  | @swap f g i k hi hk hik h1 h2 h3 =>
    intro y hy
    have := hf (fun r => if r = i then y k else if r = k then y i else y r) fun j hj => by
      rw [<- hy j hj]
      refine sm_two i k hi hk hik (fun r hr a b => ?_) ?_
      · simp [a, b, h3 r hr a b j hj]
      · simp [hik.symm, h1 j hj, h2 j hj]; grind
    intro r hr
    by_cases a : r = i
    · subst a; simpa [hik.symm] using this k hk
    · by_cases b : r = k
      · subst b; simpa using this i hi
      · simpa [a, b] using this r hr
  | @scale f g i a hi ha h1 h3 =>
    intro y hy
    have := hf (fun r => if r = i then a * y i else y r) fun j hj => by
      rw [<- hy j hj]
      refine sm_one' i hi (fun r hr e => ?_) ?_
      · simp [e, h3 r hr e j hj]
      · simp [h1 j hj]; grind
    intro r hr
    by_cases e : r = i
    · subst e
      have h4 := this r hr
      simp only [if_true] at h4
      rcases Rat.mul_eq_zero.1 h4 with h4 | h4
      · contradiction
      · exact h4
    · simpa [e] using this r hr
  | @add f g i k a hi hk hik h1 h3 =>
    intro y hy
    have := hf (fun r => if r = k then y k + a * y i else y r) fun j hj => by
      rw [<- hy j hj]
      refine sm_two i k hi hk hik (fun r hr a b => ?_) ?_
      · simp [b, h3 r hr a j hj]
      · simp [hik, h1 j hj, h3 k hk hik.symm j hj]; grind
    intro r hr
    have hyi : y i = 0 := by simpa [hik] using this i hi
    by_cases e : r = k
    · subst e
      have h4 := this r hr
      simp [hyi] at h4; grind
    · simpa [e] using this r hr
  | trans _ _ ih1 ih2 => exact ih2 (ih1 hf)
structure Rref (n c : Nat) (f : F2) (p : List Nat) : Prop where
  le : p.length <= n
  lt : ∀ i (hi : i < p.length), p[i] < c
  inc : ∀ i k (hik : i < k) (hk : k < p.length), p[i] < p[k]
  left : ∀ i (hi : i < p.length), ∀ j, j < p[i] -> f i j = 0
  one : ∀ i (hi : i < p.length), f i p[i] = 1
  zero : ∀ k (hk : k < p.length), ∀ i, i < n -> i ≠ k -> f i p[k] = 0
  below : ∀ i, p.length <= i -> i < n -> ∀ j, j < c -> f i j = 0
def nv (f : F2) (p : List Nat) (j : Nat) : Nat -> Rat := fun x => if x = j then 1 else match p.findIdx? (· == x) with | some i => - f i j | none => 0
theorem Rref.idx {n c : Nat} {f : F2} {p : List Nat} (h : Rref n c f p) (i : Nat) (hi : i < p.length) : p.findIdx? (· == p[i]) = some i := by
  rw [List.findIdx?_eq_some_iff_getElem]
  refine ⟨hi, by simp, fun j hj => ?_⟩
  have := h.inc j i hj hi
  simp; omega
theorem idx_none {p : List Nat} {x : Nat} (h : x ∉ p) : p.findIdx? (· == x) = none := by
  rw [List.findIdx?_eq_none_iff]; intro y hy; simp; rintro rfl; exact h hy
theorem Rref.nv_piv {n c : Nat} {f : F2} {p : List Nat} (h : Rref n c f p) {j : Nat} (hj : j ∉ p) (i : Nat) (hi : i < p.length) : nv f p j p[i] = - f i j := by
  unfold nv
  rw [if_neg (by rintro e; exact hj (e ▸ List.getElem_mem _)), h.idx i hi]
theorem nv_self {f : F2} {p : List Nat} (j : Nat) : nv f p j j = 1 := by simp [nv]
theorem nv_free {f : F2} {p : List Nat} {j x : Nat} (hx : x ∉ p) (hj : x ≠ j) : nv f p j x = 0 := by
  unfold nv; rw [if_neg hj, idx_none hx]
theorem Rref.row {n c : Nat} {f : F2} {p : List Nat} (h : Rref n c f p) (i : Nat) (hi : i < p.length) (x : Nat -> Rat) : sm c (fun j => f i j * x j) = x p[i] + sm c (fun j => if j ∈ p then 0 else f i j * x j) := by
  have e : sm c (fun j => f i j * x j) = sm c (fun j => (if j = p[i] then x p[i] else 0) + (if j ∈ p then 0 else f i j * x j)) := by
    refine sm_congr fun j hj => ?_
    by_cases hp : j ∈ p
    · obtain ⟨k, hk, rfl⟩ := List.getElem_of_mem hp
      by_cases hki : i = k
      · subst hki; simp [h.one i hi]; grind
      · have hne : p[k] ≠ p[i] := by
          rcases Nat.lt_or_gt_of_ne hki with a | a
          · have := h.inc i k a hk; omega
          · have := h.inc k i a hi; omega
        simp [hne, h.zero k hk i (Nat.lt_of_lt_of_le hi h.le) hki]; grind
    · have hne : j ≠ p[i] := by rintro rfl; exact hp (List.getElem_mem _)
      simp [hp, hne]; grind
  rw [e, sm_add, sm_one p[i] (h.lt i hi) (fun j _ hj => by simp [hj])]
  simp
theorem Rref.nv_nul {n c : Nat} {f : F2} {p : List Nat} (h : Rref n c f p) {j : Nat} (hj : j ∉ p) (hjc : j < c) : Nul n c f (nv f p j) := by
  intro i hi
  by_cases hip : i < p.length
  · rw [h.row i hip, h.nv_piv hj i hip, sm_one j hjc]
    · simp [hj, nv_self]; grind
    · intro k _ hkj
      by_cases hp : k ∈ p
      · simp [hp]
      · simp [hp, nv_free hp hkj]
  · exact sm_zero fun k hk => by rw [h.below i (by omega) hi k hk]; grind
theorem Rref.nv_supp {n c : Nat} {f : F2} {p : List Nat} (h : Rref n c f p) {j : Nat} (hj : j ∉ p) {x : Nat} (hx : j < x) : nv f p j x = 0 := by
  by_cases hp : x ∈ p
  · obtain ⟨k, hk, rfl⟩ := List.getElem_of_mem hp
    rw [h.nv_piv hj k hk, h.left k hk j hx]; grind
  · exact nv_free hp (by omega)
theorem Rref.sub {n c : Nat} {f g : F2} {p q : List Nat} (hf : Rref n c f p) (hg : Rref n c g q) (hn : ∀ x, Nul n c f x -> Nul n c g x) (j : Nat) (hj : j ∈ q) : j ∈ p := by
  refine Classical.byContradiction fun hjp => ?_
  obtain ⟨k, hk, rfl⟩ := List.getElem_of_mem hj
  have h1 := hn _ (hf.nv_nul hjp (hg.lt k hk)) k (Nat.lt_of_lt_of_le hk hg.le)
  rw [sm_one q[k] (hg.lt k hk)] at h1
  · rw [hg.one k hk, nv_self] at h1; grind
  · intro x _ hx
    rcases Nat.lt_or_gt_of_ne hx with a | a
    · rw [hg.left k hk x a]; grind
    · rw [hf.nv_supp hjp a]; grind
theorem inc_eq : ∀ (p q : List Nat), p.Pairwise (· < ·) -> q.Pairwise (· < ·) -> (∀ x, x ∈ p ↔ x ∈ q) -> p = q
  | [], [], _, _, _ => rfl
  | [], b :: q, _, _, h => by have := (h b).2 (by simp); simp at this
  | a :: p, [], _, _, h => by have := (h a).1 (by simp); simp at this
  | a :: p, b :: q, hp, hq, h => by
    rw [List.pairwise_cons] at hp hq
    have hab : a = b := by
      have h1 := (h a).1 (by simp)
      have h2 := (h b).2 (by simp)
      simp at h1 h2
      rcases h1 with h1 | h1
      · exact h1
      · rcases h2 with h2 | h2
        · exact h2.symm
        · have := hq.1 a h1; have := hp.1 b h2; omega
    subst hab
    rw [inc_eq p q hp.2 hq.2]
    intro x
    have h3 := h x
    simp at h3
    constructor
    · intro hx
      have := hp.1 x hx
      rcases h3.1 (.inr hx) with e | e
      · omega
      · exact e
    · intro hx
      have := hq.1 x hx
      rcases h3.2 (.inr hx) with e | e
      · omega
      · exact e
theorem Rref.pw {n c : Nat} {f : F2} {p : List Nat} (h : Rref n c f p) : p.Pairwise (· < ·) := by
  rw [List.pairwise_iff_getElem]; intro i j hi hj hij; exact h.inc i j hij hj
theorem Rref.unique {n c : Nat} {f g : F2} {p q : List Nat} (hf : Rref n c f p) (hg : Rref n c g q) (hn : ∀ x, Nul n c f x ↔ Nul n c g x) : p = q /\ Eqm n c f g := by
  have hpq : p = q := inc_eq p q hf.pw hg.pw fun x => ⟨hg.sub hf (fun x h => (hn x).2 h) x, hf.sub hg (fun x h => (hn x).1 h) x⟩
  subst hpq
  refine ⟨rfl, fun i hi j hj => ?_⟩
  by_cases hip : i < p.length
  · by_cases hjp : j ∈ p
    · obtain ⟨k, hk, rfl⟩ := List.getElem_of_mem hjp
      by_cases e : i = k
      · subst e; rw [hf.one i hip, hg.one i hip]
      · rw [hf.zero k hk i hi e, hg.zero k hk i hi e]
    · have h1 := (hn _).1 (hf.nv_nul hjp hj) i hi
      rw [hg.row i hip, hf.nv_piv hjp i hip, sm_one j hj] at h1
      · simp [hjp, nv_self] at h1; grind
      · intro k _ hkj
        by_cases hp : k ∈ p
        · simp [hp]
        · simp [hp, nv_free hp hkj]
  · rw [hf.below i (by omega) hi j hj, hg.below i (by omega) hi j hj]
end Go.Lin
namespace Go.Lin
theorem RE.cast {n c : Nat} {f g : F2} {a b : Rat} (h : RE n c f g a) (e : a = b) : RE n c f g b := e ▸ h
theorem RE.then_ {n c : Nat} {f g h : F2} {a b d : Rat} (h1 : RE n c f g a) (h2 : RE n c g h b) (e : a * b = d) : RE n c f h d := e ▸ h1.trans h2
theorem RE.addmany {n c : Nat} {f g : F2} (k : Nat) (hk : k < n) (a : Nat -> Rat) (h1 : ∀ i, i < n -> i ≠ k -> ∀ j, j < c -> g i j = f i j + a i * f k j) (h2 : ∀ j, j < c -> g k j = f k j) : RE n c f g 1 := by
  have key : ∀ t, t <= n -> RE n c f (fun i j => if i < t then g i j else f i j) 1 := by
    intro t
    induction t with
    | zero => intro _; exact .same fun i _ j _ => by simp
    | succ t ih =>
      intro ht
      refine (ih (by omega)).then_ (b := 1) ?_ (by grind)
      by_cases e : t = k
      · subst e
        refine .same fun i hi j hj => ?_
        by_cases a : i < t
        · simp [a, show i < t + 1 by omega]
        · by_cases b : i = t
          · subst b; simp [h2 j hj]
          · simp [a, show ¬ i < t + 1 by omega]
      · refine .add t k (a t) (by omega) hk e (fun j hj => ?_) (fun r hr hrt j hj => ?_)
        · have h3 := h1 t (by omega) e j hj
          by_cases b : k < t
          · simp [b, h3, h2 j hj]
          · simp [b, h3]
        · by_cases a : r < t
          · simp [a, show r < t + 1 by omega]
          · simp [a, show ¬ r < t + 1 by omega]
  refine (key n (Nat.le_refl _)).then_ (.same fun i hi j hj => ?_) (by grind)
  simp [hi]
structure Ech (n k : Nat) (f : F2) (p : List Nat) : Prop where
  le : p.length <= n
  lt : ∀ i (hi : i < p.length), p[i] < k
  inc : ∀ i k (hik : i < k) (hk : k < p.length), p[i] < p[k]
  left : ∀ i (hi : i < p.length), ∀ j, j < p[i] -> f i j = 0
  piv : ∀ i (hi : i < p.length), f i p[i] ≠ 0
  below : ∀ i, p.length <= i -> i < n -> ∀ j, j < k -> f i j = 0
theorem Ech.nil (n : Nat) (f : F2) : Ech n 0 f [] := ⟨by simp, by simp, by simp, by simp, by simp, by intros; omega⟩
theorem Ech.skip {n k : Nat} {f : F2} {p : List Nat} (h : Ech n k f p) (hz : ∀ i, p.length <= i -> i < n -> f i k = 0) : Ech n (k + 1) f p :=
  ⟨h.le, fun i hi => Nat.lt_succ_of_lt (h.lt i hi), h.inc, h.left, h.piv, fun i hi hn j hj => by
    by_cases e : j = k
    · subst e; exact hz i hi hn
    · exact h.below i hi hn j (by omega)⟩
theorem push_lt {p : List Nat} {k : Nat} (h : ∀ i (hi : i < p.length), p[i] < k) (i : Nat) (hi : i < (p ++ [k]).length) : (p ++ [k])[i] < k + 1 := by
  rw [List.getElem_append]; split
  · have := h i (by assumption); omega
  · simp
theorem push_inc {p : List Nat} {c : Nat} (h : ∀ i (hi : i < p.length), p[i] < c) (h2 : ∀ i k (hik : i < k) (hk : k < p.length), p[i] < p[k]) (i k : Nat) (hik : i < k) (hk : k < (p ++ [c]).length) : (p ++ [c])[i] < (p ++ [c])[k] := by
  simp at hk
  rw [List.getElem_append, List.getElem_append]
  by_cases a : k < p.length
  · simp [a, show i < p.length by omega]; exact h2 i k hik a
  · simp [a, show i < p.length by omega]; exact h i (by omega)
theorem Ech.push {n k : Nat} {f g : F2} {p : List Nat} (h : Ech n k f p) (hp : p.length < n) (h0 : ∀ i, i < p.length -> ∀ j, g i j = f i j)
    (hz : ∀ i, p.length <= i -> i < n -> ∀ j, j < k -> g i j = 0) (hne : g p.length k ≠ 0) (hb : ∀ i, p.length < i -> i < n -> g i k = 0) : Ech n (k + 1) g (p ++ [k]) := by
  refine ⟨by simp; omega, push_lt h.lt, push_inc h.lt h.inc, fun i hi j hj => ?_, fun i hi => ?_, fun i hi hn j hj => ?_⟩
  · simp at hi
    rw [List.getElem_append] at hj
    by_cases a : i < p.length
    · simp [a] at hj; rw [h0 i a]; exact h.left i a j hj
    · simp [a] at hj; exact hz i (by omega) (by omega) j hj
  · simp at hi
    rw [List.getElem_append]
    by_cases a : i < p.length
    · simp only [a, dite_true]; rw [h0 i a]; exact h.piv i a
    · obtain rfl : i = p.length := by omega
      simpa using hne
  · simp at hi
    by_cases e : j = k
    · subst e; exact hb i (by omega) hn
    · exact hz i (by omega) hn j (by omega)
structure Red (n t : Nat) (f : F2) (p : List Nat) : Prop where
  one : ∀ i (hi : i < p.length), i < t -> f i p[i] = 1
  zero : ∀ k (hk : k < p.length), k < t -> ∀ i, i < n -> i ≠ k -> f i p[k] = 0
theorem Ech.rref {n c : Nat} {f : F2} {p : List Nat} (h : Ech n c f p) (hr : Red n p.length f p) : Rref n c f p :=
  ⟨h.le, h.lt, h.inc, h.left, fun i hi => hr.one i hi hi, fun k hk => hr.zero k hk hk, h.below⟩
theorem Ech.under {n c : Nat} {f : F2} {p : List Nat} (h : Ech n c f p) (k : Nat) (hk : k < p.length) (i : Nat) (hi : i < n) (hki : k < i) : f i p[k] = 0 := by
  by_cases a : i < p.length
  · exact h.left i a _ (h.inc k i hki a)
  · exact h.below i (by omega) hi _ (h.lt k hk)
theorem Red.step {n c t : Nat} {f g : F2} {p : List Nat} (h : Ech n c f p) (hr : Red n t f p) (ht : t < p.length) 
    (h1 : ∀ j, g t j = f t j / f t p[t]) (h2 : ∀ i, i < t -> ∀ j, g i j = f i j - f i p[t] * g t j) (h3 : ∀ i, t < i -> ∀ j, g i j = f i j) : Ech n c g p /\ Red n (t + 1) g p := by
  have hpv := h.piv t ht
  have hz : ∀ j, j < p[t] -> g t j = 0 := fun j hj => by rw [h1, h.left t ht j hj]; grind
  have hone : g t p[t] = 1 := by rw [h1]; grind
  refine ⟨⟨h.le, h.lt, h.inc, fun i hi j hj => ?_, fun i hi => ?_, fun i hi hn j hj => ?_⟩, ⟨fun i hi hit => ?_, fun k hk hkt i hi hik => ?_⟩⟩
  · rcases Nat.lt_trichotomy i t with a | a | a
    · rw [h2 i a, h.left i hi j hj, hz j (by have := h.inc i t a ht; omega)]; grind
    · subst a; exact hz j hj
    · rw [h3 i a]; exact h.left i hi j hj
  · rcases Nat.lt_trichotomy i t with a | a | a
    · rw [h2 i a, hz _ (h.inc i t a ht)]; have := h.piv i hi; grind
    · subst a; rw [hone]; grind
    · rw [h3 i a]; exact h.piv i hi
  · rw [h3 i (by omega)]; exact h.below i hi hn j hj
  · rcases Nat.lt_trichotomy i t with a | a | a
    · rw [h2 i a, hz _ (h.inc i t a ht), hr.one i hi a]; grind
    · subst a; exact hone
    · omega
  · rcases Nat.lt_trichotomy k t with b | b | b
    · have hzk : g t p[k] = 0 := hz _ (h.inc k t b ht)
      rcases Nat.lt_trichotomy i t with a | a | a
      · rw [h2 i a, hzk, hr.zero k hk b i hi hik]; grind
      · subst a; exact hzk
      · rw [h3 i a]; exact hr.zero k hk b i hi hik
    · subst b
      rcases Nat.lt_trichotomy i k with a | a | a
      · rw [h2 i a, hone]; grind
      · omega
      · rw [h3 i a]; exact h.under k hk i hi a
    · omega
theorem Rref.skip {n k : Nat} {f : F2} {p : List Nat} (h : Rref n k f p) (hz : ∀ i, p.length <= i -> i < n -> f i k = 0) : Rref n (k + 1) f p :=
  ⟨h.le, fun i hi => Nat.lt_succ_of_lt (h.lt i hi), h.inc, h.left, h.one, h.zero, fun i hi hn j hj => by
    by_cases e : j = k
    · subst e; exact hz i hi hn
    · exact h.below i hi hn j (by omega)⟩
theorem Rref.nil (n : Nat) (f : F2) : Rref n 0 f [] := ⟨by simp, by simp, by simp, by simp, by simp, by simp, by intros; omega⟩
theorem Rref.push {n k : Nat} {f g : F2} {p : List Nat} (h : Rref n k f p) (hp : p.length < n) (hne : f p.length k ≠ 0)
    (h1 : ∀ j, g p.length j = f p.length j * (1 / f p.length k)) (h2 : ∀ i, i < n -> i ≠ p.length -> ∀ j, g i j = f i j + g p.length j * - f i k) : Rref n (k + 1) g (p ++ [k]) := by
  have hz : ∀ j, j < k -> g p.length j = 0 := fun j hj => by rw [h1, h.below _ (Nat.le_refl _) hp j hj]; grind
  have hone : g p.length k = 1 := by rw [h1]; grind
  have hk0 : ∀ i, i < n -> i ≠ p.length -> g i k = 0 := fun i hi e => by rw [h2 i hi e, hone]; grind
  have hs : ∀ i, i < n -> ∀ j, j < k -> g i j = f i j := fun i hi j hj => by
    by_cases e : i = p.length
    · subst e; rw [hz j hj, h.below _ (Nat.le_refl _) hp j hj]
    · rw [h2 i hi e, hz j hj]; grind
  refine ⟨by simp; omega, push_lt h.lt, push_inc h.lt h.inc, fun i hi j hj => ?_, fun i hi => ?_, fun q hq i hi hiq => ?_, fun i hi hn j hj => ?_⟩
  · simp at hi
    rw [List.getElem_append] at hj
    by_cases a : i < p.length
    · simp [a] at hj; rw [hs i (by omega) j (by have := h.lt i a; omega)]; exact h.left i a j hj
    · simp [a] at hj; obtain rfl : i = p.length := by omega
      exact hz j hj
  · simp at hi
    rw [List.getElem_append]
    by_cases a : i < p.length
    · simp only [a, dite_true]; rw [hs i (by omega) _ (h.lt i a)]; exact h.one i a
    · obtain rfl : i = p.length := by omega
      simpa using hone
  · simp at hq
    rw [List.getElem_append]
    by_cases a : q < p.length
    · simp only [a, dite_true]; rw [hs i hi _ (h.lt q a)]; exact h.zero q a i hi hiq
    · obtain rfl : q = p.length := by omega
      simpa using hk0 i hi hiq
  · simp at hi
    by_cases e : j = k
    · subst e; exact hk0 i hn (by omega)
    · rw [hs i hn j (by omega)]; exact h.below i (by omega) hn j (by omega)
end Go.Lin
namespace Go.Lin
abbrev Mat := List (List Rat)
def ent (m : Mat) : F2 := fun i j => (m.getD i []).getD j 0
def Shp (n c : Nat) (m : Mat) : Prop := m.length = n /\ ∀ r ∈ m, r.length = c
theorem Shp.row {n c : Nat} {m : Mat} (h : Shp n c m) {i : Nat} (hi : i < n) : (m.getD i []).length = c := by
  have : i < m.length := by rw [h.1]; exact hi
  simp [List.getD_eq_getElem?_getD, this, h.2]
theorem ent_out {n c : Nat} {m : Mat} (h : Shp n c m) {i j : Nat} (hij : n <= i \/ c <= j) : ent m i j = 0 := by
  unfold ent
  by_cases hi : i < n
  · have := h.row hi
    rw [List.getD_eq_getElem?_getD, List.getElem?_eq_none (by omega)]; rfl
  · have := h.1
    rw [List.getD_eq_getElem?_getD (l := m), List.getElem?_eq_none (by omega)]; simp
theorem Shp.ext {n c : Nat} {m m' : Mat} (h : Shp n c m) (h' : Shp n c m') (he : Eqm n c (ent m) (ent m')) : m = m' := by
  refine List.ext_getElem (h.1.trans h'.1.symm) fun i h1 h2 => ?_
  have hl1 := h.2 _ (List.getElem_mem h1)
  have hl2 := h'.2 _ (List.getElem_mem h2)
  refine List.ext_getElem (hl1.trans hl2.symm) fun j h3 h4 => ?_
  have := he i (by rw [<- h.1]; exact h1) j (by omega)
  simpa [ent, List.getD_eq_getElem?_getD, h1, h2, h3, h4] using this
theorem Shp.set {n c : Nat} {m : Mat} (h : Shp n c m) (i : Nat) {r : List Rat} (hr : r.length = c) : Shp n c (m.set i r) := by
  refine ⟨by simp [h.1], fun x hx => ?_⟩
  rcases List.mem_or_eq_of_mem_set hx with a | a
  · exact h.2 _ a
  · rw [a]; exact hr
theorem ent_set {m : Mat} {i : Nat} {r : List Rat} (hi : i < m.length) (k j : Nat) : ent (m.set i r) k j = if k = i then r.getD j 0 else ent m k j := by
  unfold ent
  simp only [List.getD_eq_getElem?_getD, List.getElem?_set]
  by_cases e : k = i
  · subst e; simp [hi]
  · simp [e, Ne.symm e]
def rows (m : Mat) (f : Nat -> List Rat -> List Rat) : Mat := m.mapIdx f
theorem Shp.rows {n c : Nat} {m : Mat} (h : Shp n c m) {f : Nat -> List Rat -> List Rat} (hf : ∀ i, i < n -> ∀ r : List Rat, r.length = c -> (f i r).length = c) : Shp n c (rows m f) := by
  refine ⟨by simp [Lin.rows, h.1], fun x hx => ?_⟩
  obtain ⟨i, hi, rfl⟩ := List.getElem_of_mem hx
  simp only [Lin.rows, List.length_mapIdx, List.getElem_mapIdx] at hi |-
  exact hf i (by rw [<- h.1]; exact hi) _ (h.2 _ (List.getElem_mem _))
theorem ent_rows {m : Mat} {f : Nat -> List Rat -> List Rat} {i : Nat} (hi : i < m.length) (j : Nat) : ent (rows m f) i j = (f i (m.getD i [])).getD j 0 := by
  simp [ent, rows, List.getD_eq_getElem?_getD, hi]
def swapL (m : Mat) (i k : Nat) : Mat := (m.set i (m.getD k [])).set k (m.getD i [])
theorem Shp.swap {n c : Nat} {m : Mat} (h : Shp n c m) {i k : Nat} (hi : i < n) (hk : k < n) : Shp n c (swapL m i k) := (h.set i (h.row hk)).set k (h.row hi)
theorem ent_swap {n c : Nat} {m : Mat} (h : Shp n c m) {i k : Nat} (hi : i < n) (hk : k < n) (r j : Nat) : ent (swapL m i k) r j = if r = k then ent m i j else if r = i then ent m k j else ent m r j := by
  unfold swapL
  rw [ent_set (by simp [h.1, hk]), ent_set (by simp [h.1, hi])]; rfl
theorem swapL_self (m : Mat) (i : Nat) (hi : i < m.length) : swapL m i i = m := by
  unfold swapL
  simp [List.getD_eq_getElem?_getD, hi]
theorem re_swap {n c : Nat} {m : Mat} (h : Shp n c m) {i k : Nat} (hi : i < n) (hk : k < n) (hik : i ≠ k) : RE n c (ent m) (ent (swapL m i k)) (-1) :=
  .swap i k hi hk hik (fun j _ => by rw [ent_swap h hi hk]; simp [hik]) (fun j _ => by rw [ent_swap h hi hk]; simp) (fun r _ a b j _ => by rw [ent_swap h hi hk]; simp [a, b])
def elimL (row piv : List Rat) (col : Nat) : List Rat := List.zipWith (fun a x => a - (row.getD col 0 / piv.getD col 0) * x) row piv
theorem elimL_len (row piv : List Rat) (col : Nat) (h : row.length = piv.length) : (elimL row piv col).length = piv.length := by simp [elimL, h]
theorem elimL_get (row piv : List Rat) (col j : Nat) (h : row.length = piv.length) : (elimL row piv col).getD j 0 = row.getD j 0 - (row.getD col 0 / piv.getD col 0) * piv.getD j 0 := by
  unfold elimL
  simp only [List.getD_eq_getElem?_getD, List.getElem?_zipWith]
  by_cases hj : j < row.length
  · simp [hj, show j < piv.length by omega]
  · simp [show ¬ j < row.length by omega, show ¬ j < piv.length by omega]; grind
theorem elimL_zero (row piv : List Rat) (col : Nat) (h : row.length = piv.length) (h0 : row.getD col 0 / piv.getD col 0 = 0) : elimL row piv col = row := by
  refine List.ext_getElem (by simp [elimL, h]) fun i h1 h2 => ?_
  simp only [elimL, List.getElem_zipWith, h0]; grind
abbrev St := Mat × List Nat × Bool
def clear (m : Mat) (t col : Nat) (s : Nat) : Mat := rows m fun i r => if t < i /\ i < t + 1 + s then elimL r (m.getD t []) col else r
noncomputable def nzAt (m : Mat) (t col : Nat) : Option Nat := (m.drop t).findIdx? fun r => decide (r.getD col 0 ≠ 0)
noncomputable def eStep (s : St) (col : Nat) : St :=
  if s.2.1.length = s.1.length then s else
  match nzAt s.1 s.2.1.length col with
  | none => s
  | some k => (clear (swapL s.1 s.2.1.length (s.2.1.length + k)) s.2.1.length col s.1.length, s.2.1 ++ [col], s.2.2 != decide (k ≠ 0))
noncomputable def eN (m : Mat) : Nat -> St
  | 0 => (m, [], false)
  | k + 1 => eStep (eN m k) k
theorem Shp.clear {n c : Nat} {m : Mat} (h : Shp n c m) {t : Nat} (ht : t < n) (col s : Nat) : Shp n c (clear m t col s) :=
  h.rows fun i hi r hr => by
    split
    · rw [elimL_len _ _ _ (by rw [hr, h.row ht]), h.row ht]
    · exact hr
theorem ent_clear {n c : Nat} {m : Mat} (h : Shp n c m) {t : Nat} (ht : t < n) (col s i j : Nat) : ent (clear m t col s) i j = if t < i /\ i < t + 1 + s /\ i < n then ent m i j - (ent m i col / ent m t col) * ent m t j else ent m i j := by
  by_cases hi : i < n
  · unfold Lin.clear
    rw [ent_rows (by rw [h.1]; exact hi)]
    by_cases a : t < i /\ i < t + 1 + s
    · simp only [a, and_self, if_true, hi]
      rw [elimL_get _ _ _ _ (by rw [h.row hi, h.row ht])]; rfl
    · rw [if_neg a, if_neg (fun b => a ⟨b.1, b.2.1⟩)]; rfl
  · rw [ent_out (h.clear ht col s) (.inl (by omega)), if_neg (by omega), ent_out h (.inl (by omega))]
theorem re_clear {n c : Nat} {m : Mat} (h : Shp n c m) {t : Nat} (ht : t < n) (col s : Nat) : RE n c (ent m) (ent (clear m t col s)) 1 :=
  .addmany t ht (fun i => if t < i /\ i < t + 1 + s /\ i < n then - (ent m i col / ent m t col) else 0)
    (fun i hi e j hj => by rw [ent_clear h ht]; split <;> grind) (fun j hj => by rw [ent_clear h ht]; simp)
theorem nzAt_none {m : Mat} {t col : Nat} (h : nzAt m t col = none) (i : Nat) (hi : t <= i) : ent m i col = 0 := by
  unfold nzAt at h
  rw [List.findIdx?_eq_none_iff] at h
  by_cases a : i < m.length
  · have := h (m[i]) (by rw [List.mem_drop_iff_getElem]; exact ⟨i - t, by omega, by congr 1; omega⟩)
    unfold ent; simp only [List.getD_eq_getElem?_getD, a, getElem?_pos, Option.getD_some] at this |-
    simpa using this
  · unfold ent; rw [List.getD_eq_getElem?_getD (l := m), List.getElem?_eq_none (by omega)]; simp
theorem nzAt_some {m : Mat} {t col k : Nat} (h : nzAt m t col = some k) : t + k < m.length /\ ent m (t + k) col ≠ 0 := by
  unfold nzAt at h
  rw [List.findIdx?_eq_some_iff_getElem] at h
  obtain ⟨h1, h2, _⟩ := h
  simp at h1
  refine ⟨by omega, ?_⟩
  unfold ent
  simp only [List.getElem_drop] at h2
  have a : t + k < m.length := by omega
  simp only [List.getD_eq_getElem?_getD, a, getElem?_pos, Option.getD_some] at h2 |-
  simpa using h2
structure EOk (n c k : Nat) (m : Mat) (s : St) : Prop where
  shp : Shp n c s.1
  ech : Ech n k (ent s.1) s.2.1
  re : RE n c (ent m) (ent s.1) (if s.2.2 then -1 else 1)
theorem EOk.zero {n c : Nat} {m : Mat} (h : Shp n c m) : EOk n c 0 m (m, [], false) := ⟨h, Ech.nil _ _, .same fun _ _ _ _ => rfl⟩
theorem EOk.step {n c k : Nat} {m : Mat} {s : St} (h : EOk n c k m s) : EOk n c (k + 1) m (eStep s k) := by
  obtain ⟨M, p, odd⟩ := s
  have hs : Shp n c M := h.shp
  have he : Ech n k (ent M) p := h.ech
  have hr : RE n c (ent m) (ent M) (if odd then -1 else 1) := h.re
  have hl := hs.1
  unfold eStep
  dsimp only
  split
  · rename_i e
    exact ⟨hs, he.skip fun i hi hn => by omega, hr⟩
  · rename_i e
    split
    · rename_i hz
      exact ⟨hs, he.skip fun i hi _ => nzAt_none hz i hi, hr⟩
    · rename_i q hz
      obtain ⟨h1, h2⟩ := nzAt_some hz
      have hp : p.length < n := by have := he.le; omega
      have hpq : p.length + q < n := by omega
      have hs2 := hs.swap hp hpq
      have hes := fun i j => ent_swap hs hp hpq i j
      have hec := fun i j => ent_clear hs2 hp k M.length i j
      have hpiv : ent (swapL M p.length (p.length + q)) p.length k ≠ 0 := by
        rw [hes]; by_cases b : q = 0
        · subst b; simpa using h2
        · simp [b]; exact h2
      refine ⟨hs2.clear hp _ _, he.push hp (fun i hi j => ?_) (fun i hi hn j hj => ?_) ?_ (fun i hi hn => ?_), ?_⟩
      · rw [hec, if_neg (by omega), hes, if_neg (by omega), if_neg (by omega)]
      · have hz : ∀ i, p.length <= i -> i < n -> ent (swapL M p.length (p.length + q)) i j = 0 := fun i hi hn => by
          rw [hes]; split
          · exact he.below _ (by omega) hp j hj
          · split
            · exact he.below _ (by omega) hpq j hj
            · exact he.below _ hi hn j hj
        rw [hec]; split
        · rw [hz i hi hn, hz p.length (Nat.le_refl _) hp]; grind
        · exact hz i hi hn
      · rw [hec, if_neg (by omega)]; exact hpiv
      · rw [hec, if_pos ⟨hi, by omega, hn⟩]; grind
      · have hc := re_clear hs2 hp k M.length
        by_cases b : q = 0
        · subst b
          rw [Nat.add_zero, swapL_self M _ (by omega)] at hc |-
          exact hr.then_ hc (by cases odd <;> simp)
        · exact hr.then_ ((re_swap hs hp hpq (by omega)).then_ hc rfl) (by cases odd <;> simp [b]; grind)
theorem eN_ok {n c : Nat} {m : Mat} (h : Shp n c m) (k : Nat) : EOk n c k m (eN m k) := by
  induction k with
  | zero => exact EOk.zero h
  | succ k ih => exact ih.step
theorem eN_stop (m : Mat) (k : Nat) (h : (eN m k).2.1.length = (eN m k).1.length) (k' : Nat) (hk : k <= k') : eN m k' = eN m k := by
  induction k' with
  | zero => have : k = 0 := by omega
            subst this; rfl
  | succ k' ih =>
    by_cases e : k = k' + 1
    · subst e; rfl
    · have := ih (by omega)
      show eStep (eN m k') k' = _
      rw [this]
      unfold eStep; rw [if_pos h]
def divL (m : Mat) (i col : Nat) : Mat := m.set i ((m.getD i []).map (· / ent m i col))
def above (m : Mat) (i col s : Nat) : Mat := rows m fun k r => if k < i /\ k < s then elimL r (m.getD i []) col else r
def dStep (m : Mat) (i col : Nat) : Mat := above (divL m i col) i col i
theorem getD_map_div (r : List Rat) (a : Rat) (j : Nat) : (r.map (· / a)).getD j 0 = r.getD j 0 / a := by
  simp only [List.getD_eq_getElem?_getD, List.getElem?_map]
  cases r[j]? with
  | none => simp; grind
  | some x => simp
theorem Shp.divL {n c : Nat} {m : Mat} (h : Shp n c m) {i : Nat} (hi : i < n) (col : Nat) : Shp n c (divL m i col) := h.set i (by rw [List.length_map]; exact h.row hi)
theorem ent_divL {n c : Nat} {m : Mat} (h : Shp n c m) {i : Nat} (hi : i < n) (col k j : Nat) : ent (divL m i col) k j = if k = i then ent m i j / ent m i col else ent m k j := by
  unfold divL
  rw [ent_set (by rw [h.1]; exact hi), getD_map_div]; rfl
theorem Shp.above {n c : Nat} {m : Mat} (h : Shp n c m) {t : Nat} (ht : t < n) (col s : Nat) : Shp n c (above m t col s) :=
  h.rows fun i hi r hr => by
    split
    · rw [elimL_len _ _ _ (by rw [hr, h.row ht]), h.row ht]
    · exact hr
theorem ent_above {n c : Nat} {m : Mat} (h : Shp n c m) {t : Nat} (ht : t < n) (col s i j : Nat) : ent (above m t col s) i j = if i < t /\ i < s then ent m i j - (ent m i col / ent m t col) * ent m t j else ent m i j := by
  by_cases hi : i < n
  · unfold Lin.above
    rw [ent_rows (by rw [h.1]; exact hi)]
    by_cases a : i < t /\ i < s
    · simp only [a, and_self, if_true]
      rw [elimL_get _ _ _ _ (by rw [h.row hi, h.row ht])]; rfl
    · rw [if_neg a, if_neg a]; rfl
  · rw [ent_out (h.above ht col s) (.inl (by omega)), if_neg (by omega), ent_out h (.inl (by omega))]
theorem re_above {n c : Nat} {m : Mat} (h : Shp n c m) {t : Nat} (ht : t < n) (col s : Nat) : RE n c (ent m) (ent (above m t col s)) 1 :=
  .addmany t ht (fun i => if i < t /\ i < s then - (ent m i col / ent m t col) else 0)
    (fun i hi e j hj => by rw [ent_above h ht]; split <;> grind) (fun j hj => by rw [ent_above h ht]; simp)
theorem re_divL {n c : Nat} {m : Mat} (h : Shp n c m) {i : Nat} (hi : i < n) (col : Nat) (hne : ent m i col ≠ 0) : RE n c (ent m) (ent (divL m i col)) (1 / ent m i col) :=
  .scale i _ hi (by intro e; grind) (fun j _ => by rw [ent_divL h hi]; simp; grind) (fun r _ hr j _ => by rw [ent_divL h hi, if_neg hr])
noncomputable def dN (m : Mat) (p : List Nat) : Nat -> Mat
  | 0 => m
  | t + 1 => dStep (dN m p t) t (p.getD t 0)
structure DOk (n c t : Nat) (m : Mat) (p : List Nat) (s : Mat) : Prop where
  shp : Shp n c s
  ech : Ech n c (ent s) p
  red : Red n t (ent s) p
  re : ∃ d, RE n c (ent m) (ent s) d
theorem DOk.step {n c t : Nat} {m : Mat} {p : List Nat} {s : Mat} (h : DOk n c t m p s) (ht : t < p.length) : DOk n c (t + 1) m p (dStep s t (p.getD t 0)) := by
  have htn : t < n := Nat.lt_of_lt_of_le ht h.ech.le
  have hp : p.getD t 0 = p[t] := by simp [List.getD_eq_getElem?_getD, ht]
  rw [hp]
  have hd := h.shp.divL htn p[t]
  have hpv := h.ech.piv t ht
  have e1 := fun k j => ent_divL h.shp htn p[t] k j
  have e2 := fun i j => ent_above hd htn p[t] t i j
  obtain ⟨d, hre⟩ := h.re
  have hone : ent (divL s t p[t]) t p[t] = 1 := by rw [e1]; simp; grind
  have hrow : ∀ j, ent (dStep s t p[t]) t j = ent s t j / ent s t p[t] := fun j => by
    unfold dStep; rw [e2, if_neg (by omega), e1]; simp
  have := Red.step (g := ent (dStep s t p[t])) h.ech h.red ht hrow (fun i hi j => by
      rw [hrow]; unfold dStep; rw [e2, if_pos ⟨hi, hi⟩, hone, e1, e1, e1, if_neg (by omega), if_neg (by omega), if_pos rfl]; grind) (fun i hi j => by
      unfold dStep; rw [e2, if_neg (by omega), e1, if_neg (by omega)])
  exact ⟨hd.above htn _ _, this.1, this.2, _, hre.trans ((re_divL h.shp htn _ hpv).trans (re_above hd htn _ _))⟩
theorem dN_ok {n c : Nat} {m : Mat} {p : List Nat} (h : Shp n c m) (he : Ech n c (ent m) p) (t : Nat) (ht : t <= p.length) : DOk n c t m p (dN m p t) := by
  induction t with
  | zero => exact ⟨h, he, ⟨by intros; omega, by intros; omega⟩, 1, .same fun _ _ _ _ => rfl⟩
  | succ t ih => exact (ih (by omega)).step (by omega)
noncomputable def redP (m : Mat) (c : Nat) : Mat × List Nat := (dN (eN m c).1 (eN m c).2.1 (eN m c).2.1.length, (eN m c).2.1)
theorem redP_ok {n c : Nat} {m : Mat} (h : Shp n c m) : Shp n c (redP m c).1 /\ Rref n c (ent (redP m c).1) (redP m c).2 /\ ∃ d, RE n c (ent m) (ent (redP m c).1) d := by
  have h1 := eN_ok h c
  have h2 := dN_ok h1.shp h1.ech _ (Nat.le_refl _)
  obtain ⟨d, h3⟩ := h2.re
  exact ⟨h2.shp, h2.ech.rref h2.red, _, h1.re.trans h3⟩
abbrev Sr := Mat × List Nat × Rat
def pv (m : Mat) (t col : Nat) : Mat := m.set t ((m.getD t []).map (· * (1 / ent m t col)))
def out (m : Mat) (t col : Nat) (s : Nat) : Mat := rows m fun i r => if i ≠ t /\ i < s then List.zipWith (· + ·) r ((m.getD t []).map (· * - r.getD col 0)) else r
noncomputable def rStep (s : Sr) (col : Nat) : Sr :=
  match nzAt s.1 s.2.1.length col with
  | none => s
  | some k => (out (pv (swapL s.1 (s.2.1.length + k) s.2.1.length) s.2.1.length col) s.2.1.length col s.1.length, s.2.1 ++ [col], (if k = 0 then s.2.2 else - s.2.2) * ent (swapL s.1 (s.2.1.length + k) s.2.1.length) s.2.1.length col)
noncomputable def rN (m : Mat) : Nat -> Sr
  | 0 => (m, [], 1)
  | k + 1 => rStep (rN m k) k
theorem getD_map_mul (r : List Rat) (a : Rat) (j : Nat) : (r.map (· * a)).getD j 0 = r.getD j 0 * a := by
  simp only [List.getD_eq_getElem?_getD, List.getElem?_map]
  cases r[j]? with
  | none => simp
  | some x => simp
theorem zip_add (a b : List Rat) (h : a.length = b.length) (j : Nat) : (List.zipWith (· + ·) a b).getD j 0 = a.getD j 0 + b.getD j 0 := by
  simp only [List.getD_eq_getElem?_getD, List.getElem?_zipWith]
  by_cases hj : j < a.length
  · simp [hj, show j < b.length by omega]
  · simp [show ¬ j < a.length by omega, show ¬ j < b.length by omega]; grind
theorem Shp.pv {n c : Nat} {m : Mat} (h : Shp n c m) {i : Nat} (hi : i < n) (col : Nat) : Shp n c (pv m i col) := h.set i (by rw [List.length_map]; exact h.row hi)
theorem ent_pv {n c : Nat} {m : Mat} (h : Shp n c m) {i : Nat} (hi : i < n) (col k j : Nat) : ent (pv m i col) k j = if k = i then ent m i j * (1 / ent m i col) else ent m k j := by
  unfold pv
  rw [ent_set (by rw [h.1]; exact hi), getD_map_mul]; rfl
theorem Shp.out {n c : Nat} {m : Mat} (h : Shp n c m) {t : Nat} (ht : t < n) (col s : Nat) : Shp n c (out m t col s) :=
  h.rows fun i hi r hr => by
    split
    · rw [List.length_zipWith, List.length_map, hr, h.row ht]; omega
    · exact hr
theorem ent_outm {n c : Nat} {m : Mat} (h : Shp n c m) {t : Nat} (ht : t < n) (col s i j : Nat) : ent (out m t col s) i j = if i ≠ t /\ i < s /\ i < n then ent m i j + ent m t j * - ent m i col else ent m i j := by
  by_cases hi : i < n
  · unfold Lin.out
    rw [ent_rows (by rw [h.1]; exact hi)]
    by_cases a : i ≠ t /\ i < s
    · rw [if_pos a, if_pos ⟨a.1, a.2, hi⟩, zip_add _ _ (by rw [List.length_map, h.row hi, h.row ht]), getD_map_mul]; rfl
    · rw [if_neg a, if_neg (fun b => a ⟨b.1, b.2.1⟩)]; rfl
  · rw [ent_out (h.out ht col s) (.inl (by omega)), if_neg (by omega), ent_out h (.inl (by omega))]
structure ROk (n c k : Nat) (m : Mat) (s : Sr) : Prop where
  shp : Shp n c s.1
  ref : Rref n k (ent s.1) s.2.1
  re : ∃ d, RE n c (ent m) (ent s.1) d /\ s.2.2 * d = 1
theorem ROk.step {n c k : Nat} {m : Mat} {s : Sr} (h : ROk n c k m s) : ROk n c (k + 1) m (rStep s k) := by
  obtain ⟨M, p, fac⟩ := s
  have hs : Shp n c M := h.shp
  have he : Rref n k (ent M) p := h.ref
  obtain ⟨d, hr, hd⟩ : ∃ d, RE n c (ent m) (ent M) d /\ fac * d = 1 := h.re
  have hl := hs.1
  unfold rStep
  dsimp only
  split
  · rename_i hz
    exact ⟨hs, he.skip fun i hi _ => nzAt_none hz i hi, d, hr, hd⟩
  · rename_i q hz
    obtain ⟨h1, h2⟩ := nzAt_some hz
    have hp : p.length < n := by omega
    have hpq : p.length + q < n := by omega
    have hs2 := hs.swap hpq hp
    have hes := fun i j => ent_swap hs hpq hp i j
    have hs3 := hs2.pv hp k
    have hep := fun i j => ent_pv hs2 hp k i j
    have heo := fun i j => ent_outm hs3 hp k M.length i j
    have hpiv : ent (swapL M (p.length + q) p.length) p.length k ≠ 0 := by rw [hes, if_pos rfl]; exact h2
    have hsw : Rref n k (ent (swapL M (p.length + q) p.length)) p := by
      have hsm : ∀ i, i < p.length -> ∀ j, ent (swapL M (p.length + q) p.length) i j = ent M i j := fun i hi j => by
        rw [hes, if_neg (by omega), if_neg (by omega)]
      have hz0 : ∀ i, p.length <= i -> i < n -> ∀ j, j < k -> ent (swapL M (p.length + q) p.length) i j = 0 := fun i hi hn j hj => by
        rw [hes]; split
        · exact he.below _ (by omega) hpq j hj
        · split
          · exact he.below _ (by omega) hp j hj
          · exact he.below _ hi hn j hj
      refine ⟨he.le, he.lt, he.inc, fun i hi j hj => by rw [hsm i hi]; exact he.left i hi j hj, fun i hi => by rw [hsm i hi]; exact he.one i hi, fun t ht i hi hit => ?_, hz0⟩
      by_cases a : i < p.length
      · rw [hsm i a]; exact he.zero t ht i hi hit
      · exact hz0 i (by omega) hi _ (he.lt t ht)
    have hrow : ∀ j, ent (out (pv (swapL M (p.length + q) p.length) p.length k) p.length k M.length) p.length j = ent (swapL M (p.length + q) p.length) p.length j * (1 / ent (swapL M (p.length + q) p.length) p.length k) := fun j => by
      rw [heo, if_neg (by omega), hep, if_pos rfl]
    refine ⟨hs3.out hp _ _, hsw.push hp hpiv hrow (fun i hi hne j => ?_), ?_⟩
    · rw [hrow, heo, if_pos ⟨hne, by omega, hi⟩, hep, hep, hep, if_neg hne, if_neg hne, if_pos rfl]
    · have hre3 : RE n c (ent (swapL M (p.length + q) p.length)) (ent (pv (swapL M (p.length + q) p.length) p.length k)) (1 / ent (swapL M (p.length + q) p.length) p.length k) :=
        .scale p.length _ hp (by intro e; grind) (fun j _ => by rw [hep]; simp; grind) (fun r _ hr j _ => by rw [hep, if_neg hr])
      have hre4 : RE n c (ent (pv (swapL M (p.length + q) p.length) p.length k)) (ent (out (pv (swapL M (p.length + q) p.length) p.length k) p.length k M.length)) 1 :=
        .addmany p.length hp (fun i => if i ≠ p.length /\ i < M.length /\ i < n then - ent (pv (swapL M (p.length + q) p.length) p.length k) i k else 0)
          (fun i hi e j hj => by rw [heo]; split <;> grind) (fun j hj => by rw [heo]; simp)
      by_cases b : q = 0
      · subst b
        rw [Nat.add_zero, swapL_self M _ (by omega)] at hre3 hre4 hpiv |-
        exact ⟨_, hr.trans (hre3.trans hre4), by simp; grind⟩
      · exact ⟨_, hr.trans ((re_swap hs hpq hp (by omega)).trans (hre3.trans hre4)), by simp [b]; grind⟩
theorem rN_ok {n c : Nat} {m : Mat} (h : Shp n c m) (k : Nat) : ROk n c k m (rN m k) := by
  induction k with
  | zero => exact ⟨h, Rref.nil _ _, 1, .same fun _ _ _ _ => rfl, by show (1 : Rat) * 1 = 1; grind⟩
  | succ k ih => exact ih.step
theorem red_eq {n c : Nat} {m : Mat} (h : Shp n c m) : (redP m c).1 = (rN m c).1 /\ (redP m c).2 = (rN m c).2.1 := by
  obtain ⟨h1, h2, d, h3⟩ := redP_ok h
  have h4 := rN_ok h c
  obtain ⟨e, h5, _⟩ := h4.re
  have := h2.unique h4.ref fun x => ((h3.nul x).symm.trans (h5.nul x))
  exact ⟨h1.ext h4.shp this.2, this.1⟩
end Go.Lin
namespace Go.Lin
theorem Ech.ge {n k : Nat} {f : F2} {p : List Nat} (h : Ech n k f p) (i : Nat) (hi : i < p.length) : i <= p[i] := by
  induction i with
  | zero => omega
  | succ i ih => have := ih (by omega); have := h.inc i (i + 1) (by omega) hi; omega
theorem Rref.ge {n k : Nat} {f : F2} {p : List Nat} (h : Rref n k f p) (i : Nat) (hi : i < p.length) : i <= p[i] := by
  induction i with
  | zero => omega
  | succ i ih => have := ih (by omega); have := h.inc i (i + 1) (by omega) hi; omega
theorem Rref.diag {n c : Nat} {f : F2} {p : List Nat} (h : Rref n c f p) (hp : p.length = n) (hc : ∀ i (hi : i < p.length), p[i] < n) (i : Nat) (hi : i < n) : p[i]'(by omega) = i := by
  have h1 : ∀ q, q < n -> ∀ hq : n - 1 - q < p.length, p[n - 1 - q] <= n - 1 - q := by
    intro q
    induction q with
    | zero => intro h0 hq; have := hc _ hq; omega
    | succ q ih =>
      intro h0 hq
      have h2 := ih (by omega) (by omega)
      have h3 := h.inc (n - 1 - (q + 1)) (n - 1 - q) (by omega) (by omega)
      omega
  have h2 := h1 (n - 1 - i) (by omega) (by omega)
  have h3 := h.ge i (by omega)
  have e : n - 1 - (n - 1 - i) = i := by omega
  simp only [e] at h2
  omega
theorem Rref.unit {n c : Nat} {f : F2} {p : List Nat} (h : Rref n c f p) (hp : p.length = n) (hc : ∀ i (hi : i < p.length), p[i] < n) : Eqm n n f fun i j => if i = j then 1 else 0 := fun i hi j hj => by
  have hd := h.diag hp hc j hj
  by_cases e : i = j
  · subst e
    have := h.one i (by omega); rw [hd] at this; simpa using this
  · have := h.zero j (by omega) i hi e; rw [hd] at this; simpa [e] using this
def mul (n : Nat) (f g : F2) : F2 := fun i j => sm n fun k => f i k * g k j
end Go.Lin
namespace Go.Lin
def ofF (n c : Nat) (f : F2) : Mat := (List.range n).map fun i => (List.range c).map (f i)
theorem shp_ofF (n c : Nat) (f : F2) : Shp n c (ofF n c f) := ⟨by simp [ofF], fun r hr => by
  obtain ⟨i, _, rfl⟩ := List.mem_map.1 hr; simp⟩
theorem ent_ofF (n c : Nat) (f : F2) : Eqm n c (ent (ofF n c f)) f := fun i hi j hj => by simp [ent, ofF, List.getD_eq_getElem?_getD, hi, hj]
theorem RE.congr {n c : Nat} {f f' g : F2} {d : Rat} (h : RE n c f g d) (e : Eqm n c f' f) : RE n c f' g d := (RE.same e).then_ h (by grind)
theorem rref_ex (n c : Nat) (f : F2) : ∃ r p d, Rref n c r p /\ RE n c f r d := by
  obtain ⟨_, h2, d, h3⟩ := redP_ok (shp_ofF n c f)
  exact ⟨_, _, d, h2, h3.congr fun i hi j hj => (ent_ofF n c f i hi j hj).symm⟩
theorem RE.factor {n c r : Nat} {f g : F2} {d : Rat} (h : RE n c f g d) (b : F2) (hf : ∃ a, Eqm n c f (mul r a b)) : ∃ a, Eqm n c g (mul r a b) := by
  induction h with
  | same h => obtain ⟨a, ha⟩ := hf; exact ⟨a, fun i hi j hj => (h i hi j hj).symm.trans (ha i hi j hj)⟩
  | swap i k hi hk hik h1 h2 h3 =>
    obtain ⟨a, ha⟩ := hf
    refine ⟨fun q => if q = i then a k else if q = k then a i else a q, fun q hq j hj => ?_⟩
    by_cases e : q = i
    · subst e; rw [h1 j hj, ha k hk j hj]; simp [mul]
    · by_cases e2 : q = k
      · subst e2; rw [h2 j hj, ha i hi j hj]; simp [mul, e]
      · rw [h3 q hq e e2 j hj, ha q hq j hj]; simp [mul, e, e2]
  | scale i x hi hx h1 h3 =>
    obtain ⟨a, ha⟩ := hf
    refine ⟨fun q => if q = i then fun k => x * a i k else a q, fun q hq j hj => ?_⟩
    by_cases e : q = i
    · subst e; rw [h1 j hj, ha q hq j hj]; simp only [mul, if_true]; rw [<- sm_mul]; exact sm_congr fun k _ => by grind
    · rw [h3 q hq e j hj, ha q hq j hj]; simp [mul, e]
  | add i k x hi hk hik h1 h3 =>
    obtain ⟨a, ha⟩ := hf
    refine ⟨fun q => if q = i then fun y => a i y + x * a k y else a q, fun q hq j hj => ?_⟩
    by_cases e : q = i
    · subst e; rw [h1 j hj, ha q hq j hj, ha k hk j hj]; simp only [mul, if_true]; rw [<- sm_mul, <- sm_add]; exact sm_congr fun k _ => by grind
    · rw [h3 q hq e j hj, ha q hq j hj]; simp [mul, e]
  | trans _ _ ih1 ih2 => exact ih2 (ih1 hf)
theorem rank_le {n c r : Nat} {f g : F2} {p : List Nat} {d : Rat} (hg : Rref n c g p) (h : RE n c f g d) (a b : F2) (hf : Eqm n c f (mul r a b)) : p.length <= r := by
  refine Classical.byContradiction fun hlt => ?_
  obtain ⟨t, ht⟩ := h.factor b ⟨a, hf⟩
  obtain ⟨s, q, e, hs, he⟩ := rref_ex r p.length (fun k i => t i k)
  have hq : ∃ j, j < p.length /\ j ∉ q := by
    refine Classical.byContradiction fun hno => ?_
    have hall : ∀ j, j < p.length -> j ∈ q := fun j hj => Classical.byContradiction fun h => hno ⟨j, hj, h⟩
    have h1 : (List.range p.length).length <= q.length := (List.nodup_range).length_le_of_subset fun j hj => hall j (List.mem_range.1 hj)
    rw [List.length_range] at h1
    have := hs.le
    omega
  obtain ⟨j, hj, hjq⟩ := hq
  have h1 := (he.nul _).2 (hs.nv_nul hjq hj)
  have h2 : ∀ x, x < c -> sm p.length (fun i => nv s q j i * g i x) = 0 := fun x hx => by
    have e1 : sm p.length (fun i => nv s q j i * g i x) = sm p.length (fun i => sm r fun k => (t i k * nv s q j i) * b k x) := sm_congr fun i hi => by
      have := hg.le
      rw [ht i (by omega) x hx]; unfold mul; rw [<- sm_mul]; exact sm_congr fun k _ => by grind
    rw [e1, sm_comm]
    exact sm_zero fun k hk => by
      have := h1 k hk
      rw [sm_congr (g := fun i => b k x * (t i k * nv s q j i)) fun i _ => by grind, sm_mul, this]; grind
  have h3 := h2 p[j] (hg.lt j hj)
  rw [sm_one j hj fun i hi hij => by rw [hg.zero j hj i (by have := hg.le; omega) hij]; grind] at h3
  rw [nv_self, hg.one j hj] at h3
  grind
theorem LI.full {n c : Nat} {f r : F2} {p : List Nat} {d : Rat} (hf : LI n c f) (hr : Rref n c r p) (h : RE n c f r d) : p.length = n := by
  have hle := hr.le
  refine Classical.byContradiction fun hne => ?_
  have := (h.li hf) (fun i => if i = p.length then 1 else 0) (fun j hj => by
    unfold cmb
    rw [sm_one p.length (by omega) fun i _ hi => by simp [hi]]
    rw [hr.below _ (Nat.le_refl _) (by omega) j hj]; grind) p.length (by omega)
  simp at this
def nullL (r : F2) (p : List Nat) (c : Nat) : Mat := ((List.range c).filter (· ∉ p)).map fun j => (List.range c).map (nv r p j)
theorem nullL_len {r : F2} {p : List Nat} {c n : Nat} (h : Rref n c r p) : (nullL r p c).length = c - p.length := by
  have h1 : ((List.range c).filter (· ∉ p)).length + ((List.range c).filter (· ∈ p)).length = c := by
    have key : ∀ l : List Nat, (l.filter (· ∉ p)).length + (l.filter (· ∈ p)).length = l.length := fun l => by
      induction l with
      | nil => rfl
      | cons a l ih => by_cases ha : a ∈ p <;> simp [ha] at ih |- <;> omega
    have := key (List.range c)
    simpa using this
  have h2 : (List.range c).filter (· ∈ p) = p := by
    refine inc_eq _ _ ?_ h.pw fun x => ?_
    · exact List.Pairwise.filter _ List.pairwise_lt_range
    · simp only [List.mem_filter, List.mem_range, decide_eq_true_eq]
      constructor
      · exact fun h => h.2
      · intro hx
        obtain ⟨i, hi, rfl⟩ := List.getElem_of_mem hx
        exact ⟨h.lt i hi, hx⟩
  rw [h2] at h1
  simp only [nullL, List.length_map]; omega
theorem nullL_li (r : F2) (p : List Nat) (c : Nat) : LI (nullL r p c).length c (ent (nullL r p c)) := by
  intro y hy i hi
  have hi' : i < ((List.range c).filter (· ∉ p)).length := by simpa [nullL] using hi
  have hmem := List.getElem_mem hi'
  rw [List.mem_filter, List.mem_range] at hmem
  have h1 := hy _ hmem.1
  have hnp : ((List.range c).filter (· ∉ p))[i] ∉ p := by simpa using hmem.2
  have he : ∀ k (hk : k < ((List.range c).filter (· ∉ p)).length), ent (nullL r p c) k ((List.range c).filter (· ∉ p))[i] = nv r p ((List.range c).filter (· ∉ p))[k] ((List.range c).filter (· ∉ p))[i] := fun k hk => by
    unfold ent nullL
    rw [List.getD_eq_getElem?_getD (l := List.map _ _), List.getElem?_map, List.getElem?_eq_getElem hk]
    simp only [Option.map_some, Option.getD_some]
    rw [List.getD_eq_getElem?_getD, List.getElem?_map, List.getElem?_range hmem.1]; rfl
  unfold cmb at h1
  rw [sm_one i hi fun k hk hki => by
    have hk' : k < ((List.range c).filter (· ∉ p)).length := by simpa [nullL] using hk
    have hne : ((List.range c).filter (· ∉ p))[i] ≠ ((List.range c).filter (· ∉ p))[k] := fun e => by
      have hnd : ((List.range c).filter (· ∉ p)).Pairwise (· < ·) := List.Pairwise.filter _ List.pairwise_lt_range
      rw [List.pairwise_iff_getElem] at hnd
      rcases Nat.lt_or_gt_of_ne hki with a | a
      · have := hnd k i hk' hi' a; omega
      · have := hnd i k hi' hk' a; omega
    rw [he k hk', nv_free hnp hne]; grind, he i hi', nv_self] at h1
  grind
end Go.Lin
namespace Go.Lin
abbrev Vec := Nat -> Rat
def dot (c : Nat) (u v : Vec) : Rat := sm c fun j => u j * v j
def nz (c : Nat) (u : Vec) : Prop := ∃ j, j < c /\ u j ≠ 0
theorem dot_comm (c : Nat) (u v : Vec) : dot c u v = dot c v u := sm_congr fun j _ => by grind
theorem dot_add (c : Nat) (u v x : Vec) : dot c (fun j => u j + v j) x = dot c u x + dot c v x := by
  unfold dot; rw [<- sm_add]; exact sm_congr fun j _ => by grind
theorem dot_mul (c : Nat) (a : Rat) (u x : Vec) : dot c (fun j => a * u j) x = a * dot c u x := by
  unfold dot; rw [<- sm_mul]; exact sm_congr fun j _ => by grind
theorem dot_lin (c : Nat) (u v : Vec) (t : Rat) (x : Vec) : dot c (fun j => u j + t * v j) x = dot c u x + t * dot c v x := by
  rw [dot_add c u (fun j => t * v j), dot_mul]
theorem dot_congr {c : Nat} {u u' v : Vec} (h : ∀ j, j < c -> u j = u' j) : dot c u v = dot c u' v := sm_congr fun j hj => by rw [h j hj]
theorem dot_zero {c : Nat} {u v : Vec} (h : ∀ j, j < c -> u j = 0) : dot c u v = 0 := sm_zero fun j hj => by rw [h j hj]; grind
theorem sm_nonneg {n : Nat} {f : Nat -> Rat} (h : ∀ i, i < n -> 0 <= f i) : 0 <= sm n f := by
  induction n with
  | zero => exact Rat.le_refl
  | succ n ih => unfold sm; have := ih fun i hi => h i (by omega); have := h n (by omega); grind
theorem sm_pos_zero {n : Nat} {f : Nat -> Rat} (h : ∀ i, i < n -> 0 <= f i) (h0 : sm n f = 0) : ∀ i, i < n -> f i = 0 := by
  induction n with
  | zero => intro i hi; omega
  | succ n ih =>
    unfold sm at h0
    have h1 := sm_nonneg (n := n) fun i hi => h i (by omega)
    have h2 := h n (by omega)
    have h3 : sm n f = 0 := by grind
    have h4 : f n = 0 := by grind
    intro i hi
    by_cases e : i = n
    · subst e; exact h4
    · exact ih (fun i hi => h i (by omega)) h3 i (by omega)
theorem sq_nonneg (a : Rat) : 0 <= a * a := by
  rcases Rat.le_total (a := 0) (b := a) with h | h
  · exact Rat.mul_nonneg h h
  · have : 0 <= (-a) * (-a) := Rat.mul_nonneg (by grind) (by grind)
    grind
theorem dot_self {c : Nat} {u : Vec} (h : dot c u u = 0) : ∀ j, j < c -> u j = 0 := fun j hj => by
  have := sm_pos_zero (fun i _ => sq_nonneg (u i)) h j hj
  rcases Rat.mul_eq_zero.1 this with e | e <;> exact e
theorem nz_of {c : Nat} {u : Vec} (h : ¬ ∀ j, j < c -> u j = 0) : nz c u := by
  apply Classical.byContradiction
  intro hn
  exact h fun j hj => Classical.byContradiction fun e => hn ⟨j, hj, e⟩
theorem nz.not {c : Nat} {u : Vec} (h : nz c u) : ¬ ∀ j, j < c -> u j = 0 := fun k => let ⟨j, hj, e⟩ := h; e (k j hj)
theorem nz_dot {c : Nat} {u v : Vec} (h : dot c u v ≠ 0) : nz c u := nz_of fun k => h (dot_zero k)
def cntGe (c : Nat) (u : Vec) (z : List Vec) : Nat := z.countP fun v => decide (0 <= dot c u v)
def posN (c : Nat) (u : Vec) (z : List Vec) : Nat := z.countP fun v => decide (0 < dot c u v)
def onL (c : Nat) (u : Vec) (z : List Vec) : List Vec := z.filter fun v => decide (dot c u v = 0)
def IsDep (c : Nat) (z : List Vec) (k : Nat) : Prop := (∃ u, nz c u /\ cntGe c u z = k) /\ ∀ u, nz c u -> k <= cntGe c u z
theorem IsDep.uniq {c : Nat} {z : List Vec} {k l : Nat} (h : IsDep c z k) (h' : IsDep c z l) : k = l := by
  obtain ⟨⟨u, h1, h2⟩, h3⟩ := h
  obtain ⟨⟨v, g1, g2⟩, g3⟩ := h'
  have := h3 v g1
  have := g3 u h1
  omega
theorem least_ex {P : Nat -> Prop} (n : Nat) (h : P n) : ∃ k, P k /\ ∀ m, P m -> k <= m := by
  induction n using Nat.strongRecOn with
  | _ n ih =>
    by_cases hs : ∃ m, m < n /\ P m
    · obtain ⟨m, h1, h2⟩ := hs; exact ih m h1 h2
    · exact ⟨n, h, fun m hm => by
        rcases Nat.lt_or_ge m n with h1 | h1
        · exact absurd ⟨m, h1, hm⟩ hs
        · exact h1⟩
theorem dep_ex {c : Nat} (hc : 0 < c) (z : List Vec) : ∃ k, IsDep c z k := by
  obtain ⟨k, h1, h2⟩ := least_ex (P := fun k => ∃ u, nz c u /\ cntGe c u z = k) (cntGe c (fun _ => 1) z) ⟨fun _ => 1, ⟨0, hc, by grind⟩, rfl⟩
  exact ⟨k, h1, fun u hu => h2 _ ⟨u, hu, rfl⟩⟩
theorem cntGe_le (c : Nat) (u : Vec) (z : List Vec) : cntGe c u z <= z.length := List.countP_le_length
theorem IsDep.le {c : Nat} {z : List Vec} {k : Nat} (h : IsDep c z k) : k <= z.length := by
  obtain ⟨⟨u, _, h2⟩, _⟩ := h; rw [<- h2]; exact cntGe_le _ _ _
def Calm (c : Nat) (u y : Vec) (z : List Vec) (e : Rat) : Prop := ∀ v ∈ z, (0 < dot c u v -> ∀ t, 0 < t -> t <= e -> 0 < dot c u v + t * dot c y v) /\ (dot c u v < 0 -> ∀ t, 0 < t -> t <= e -> dot c u v + t * dot c y v < 0)
theorem calm1 (a b : Rat) : ∃ e, 0 < e /\ (0 < a -> ∀ t, 0 < t -> t <= e -> 0 < a + t * b) := by
  by_cases ha : 0 < a
  · by_cases hb : 0 <= b
    · exact ⟨1, by decide, fun _ t h1 _ => by have := Rat.mul_nonneg (a := t) (b := b) (by grind) hb; grind⟩
    · have hb' : 0 < -b := by grind
      refine ⟨a / (2 * -b), ?_, fun _ t h1 h2 => ?_⟩
      · rw [Rat.div_def]; exact Rat.mul_pos ha (Rat.inv_pos.2 (by grind))
      · have h3 : t * (2 * -b) <= a / (2 * -b) * (2 * -b) := Rat.mul_le_mul_of_nonneg_right h2 (by grind)
        rw [Rat.div_mul_cancel (by grind)] at h3
        have h4 := Rat.mul_pos h1 hb'
        grind
  · exact ⟨1, by decide, fun h => absurd h ha⟩
theorem Calm.le {c : Nat} {u y : Vec} {z : List Vec} {e d : Rat} (h : Calm c u y z e) (hd : d <= e) : Calm c u y z d := fun v hv =>
  ⟨fun h1 t h2 h3 => (h v hv).1 h1 t h2 (Rat.le_trans h3 hd), fun h1 t h2 h3 => (h v hv).2 h1 t h2 (Rat.le_trans h3 hd)⟩
theorem calm_ex (c : Nat) (u y : Vec) (z : List Vec) : ∃ e, 0 < e /\ Calm c u y z e := by
  induction z with
  | nil => exact ⟨1, by decide, fun v hv => by simp at hv⟩
  | cons v z ih =>
    obtain ⟨e1, h1, h2⟩ := ih
    obtain ⟨e2, h3, h4⟩ := calm1 (dot c u v) (dot c y v)
    obtain ⟨e3, h5, h6⟩ := calm1 (-dot c u v) (-dot c y v)
    obtain ⟨e, he, l1, l2, l3⟩ : ∃ e, 0 < e /\ e <= e1 /\ e <= e2 /\ e <= e3 := by
      by_cases a : e1 <= e2
      · by_cases b : e1 <= e3
        · exact ⟨e1, h1, Rat.le_refl, a, b⟩
        · exact ⟨e3, h5, by grind, by grind, Rat.le_refl⟩
      · by_cases b : e2 <= e3
        · exact ⟨e2, h3, by grind, Rat.le_refl, b⟩
        · exact ⟨e3, h5, by grind, by grind, Rat.le_refl⟩
    refine ⟨e, he, fun w hw => ?_⟩
    rcases List.mem_cons.1 hw with rfl | hw
    · refine ⟨fun g t g1 g2 => h4 g t g1 (Rat.le_trans g2 l2), fun g t g1 g2 => ?_⟩
      have := h6 (by grind) t g1 (Rat.le_trans g2 l3)
      grind
    · exact (h2.le l1) w hw
theorem cnt_split (c : Nat) (u u' u2 : Vec) (z : List Vec) (h : ∀ v ∈ z, (0 < dot c u v -> 0 < dot c u2 v) /\ (dot c u v < 0 -> dot c u2 v < 0) /\ (dot c u v = 0 -> (0 <= dot c u2 v ↔ 0 <= dot c u' v))) : cntGe c u2 z = posN c u z + cntGe c u' (onL c u z) := by
  induction z with
  | nil => rfl
  | cons v z ih =>
    have ih := ih fun w hw => h w (List.mem_cons_of_mem _ hw)
    obtain ⟨h1, h2, h3⟩ := h v List.mem_cons_self
    unfold cntGe posN onL at *
    rw [List.countP_cons, List.countP_cons, List.filter_cons, ih]
    by_cases a : 0 < dot c u v
    · have b := h1 a
      rw [if_pos (by simp; grind), if_pos (by simpa using a), if_neg (by simp; grind)]; omega
    · by_cases b : dot c u v = 0
      · have k := h3 b
        rw [if_neg (c := decide (0 < dot c u v) = true) (by simpa using a), if_pos (c := decide (dot c u v = 0) = true) (by simpa using b), List.countP_cons]
        by_cases g : 0 <= dot c u2 v
        · rw [if_pos (by simpa using g), if_pos (by simpa using k.1 g)]; omega
        · rw [if_neg (by simpa using g), if_neg (by simpa using fun x => g (k.2 x))]; omega
      · have k := h2 (by grind)
        rw [if_neg (by simp; grind), if_neg (by simpa using a), if_neg (by simpa using b)]; omega
theorem turn {c : Nat} {u u' : Vec} (hu : nz c u) (z : List Vec) : ∃ u2, nz c u2 /\ cntGe c u2 z = posN c u z + cntGe c u' (onL c u z) := by
  obtain ⟨j, hj, hne⟩ := hu
  have hun : dot c u (fun i => if i = j then 1 else 0) = u j := by
    unfold dot; rw [sm_one j hj (fun i _ h => by simp [h])]; simp
  obtain ⟨e, he, hc⟩ := calm_ex c u u' ((fun i => if i = j then 1 else 0) :: z)
  refine ⟨fun i => u i + e * u' i, ?_, cnt_split c u u' _ z fun v hv => ⟨fun h => ?_, fun h => ?_, fun h => ?_⟩⟩
  · have hh := hc _ List.mem_cons_self
    rw [hun] at hh
    apply nz_dot (v := fun i => if i = j then 1 else 0)
    rw [dot_lin, hun]
    by_cases h : 0 < u j
    · have := hh.1 h e he Rat.le_refl; grind
    · have := hh.2 (by grind) e he Rat.le_refl; grind
  · rw [dot_lin]; exact (hc v (List.mem_cons_of_mem _ hv)).1 h e he Rat.le_refl
  · rw [dot_lin]; exact (hc v (List.mem_cons_of_mem _ hv)).2 h e he Rat.le_refl
  · rw [dot_lin, h]
    constructor
    · intro h2
      apply Classical.byContradiction; intro h3
      have := Rat.mul_pos he (show 0 < - dot c u' v by grind)
      grind
    · intro h2; have := Rat.mul_nonneg (Rat.le_of_lt he) h2; grind
theorem IsDep.lower {c : Nat} {z : List Vec} {k l : Nat} (h : IsDep c z k) {u : Vec} (hu : nz c u) (hl : IsDep c (onL c u z) l) : k <= posN c u z + l := by
  obtain ⟨⟨u', h1, h2⟩, _⟩ := hl
  obtain ⟨u2, h3, h4⟩ := turn (u' := u') hu z
  have := h.2 u2 h3
  omega
end Go.Lin
namespace Go.Lin
def Sgn (c : Nat) (z : List Vec) (u x : Vec) : Prop := ∀ v ∈ z, (0 < dot c u v -> 0 <= dot c x v) /\ (dot c u v < 0 -> dot c x v <= 0) /\ (dot c u v = 0 -> dot c x v = 0)
def Vertex (c : Nat) (W : Vec -> Prop) (z : List Vec) (x : Vec) : Prop := W x /\ nz c x /\ ∀ y, W y -> (∀ v ∈ onL c x z, dot c y v = 0) -> ∃ t : Rat, ∀ j, j < c -> y j = t * x j
structure Dirs (c : Nat) (z : List Vec) (W : Vec -> Prop) : Prop where
  lin : ∀ u y t, W u -> W y -> W (fun j => u j + t * y j)
  zero : ∀ y, W y -> (∀ v ∈ z, dot c y v = 0) -> ∀ j, j < c -> y j = 0
  all : ∀ u, ∃ x, W x /\ ∀ v ∈ z, dot c x v = dot c u v
  some_ : ∃ u, W u /\ nz c u
theorem min_ex {P : Vec -> Prop} (f : Vec -> Rat) (z : List Vec) (h : ∃ v ∈ z, P v) : ∃ v ∈ z, P v /\ ∀ w ∈ z, P w -> f v <= f w := by
  induction z with
  | nil => obtain ⟨v, hv, _⟩ := h; simp at hv
  | cons a z ih =>
    by_cases hz : ∃ v ∈ z, P v
    · obtain ⟨v, h1, h2, h3⟩ := ih hz
      by_cases ha : P a /\ f a <= f v
      · exact ⟨a, List.mem_cons_self, ha.1, fun w hw hp => by
          rcases List.mem_cons.1 hw with rfl | hw
          · exact Rat.le_refl
          · exact Rat.le_trans ha.2 (h3 w hw hp)⟩
      · exact ⟨v, List.mem_cons_of_mem _ h1, h2, fun w hw hp => by
          rcases List.mem_cons.1 hw with rfl | hw
          · have : ¬ f w <= f v := fun h => ha ⟨hp, h⟩
            grind
          · exact h3 w hw hp⟩
    · obtain ⟨v, hv, hp⟩ := h
      rcases List.mem_cons.1 hv with rfl | hv
      · exact ⟨v, List.mem_cons_self, hp, fun w hw hq => by
          rcases List.mem_cons.1 hw with rfl | hw
          · exact Rat.le_refl
          · exact absurd ⟨w, hw, hq⟩ hz⟩
      · exact absurd ⟨v, hv, hp⟩ hz
theorem countP_lt {α : Type} {p q : α -> Bool} {l : List α} (h : ∀ x ∈ l, p x = true -> q x = true) {a : α} (ha : a ∈ l) (h1 : p a = false) (h2 : q a = true) : l.countP p < l.countP q := by
  induction l with
  | nil => simp at ha
  | cons b l ih =>
    have hle : l.countP p <= l.countP q := List.countP_mono_left fun x hx => h x (List.mem_cons_of_mem _ hx)
    rw [List.countP_cons, List.countP_cons]
    rcases List.mem_cons.1 ha with rfl | ha
    · rw [h1, h2]; simp; omega
    · have := ih (fun x hx => h x (List.mem_cons_of_mem _ hx)) ha
      have hb := h b List.mem_cons_self
      cases hp : p b <;> cases hq : q b <;> simp_all <;> omega
theorem vertex_ex {c : Nat} {z : List Vec} {W : Vec -> Prop} (hW : Dirs c z W) : ∀ (n : Nat) (u : Vec), W u -> nz c u -> z.countP (fun v => decide (dot c u v ≠ 0)) = n -> ∃ x, Vertex c W z x /\ Sgn c z u x := by
  intro n
  induction n using Nat.strongRecOn with
  | _ n ih =>
    intro u hu hn hc
    by_cases hv : Vertex c W z u
    · exact ⟨u, hv, fun v _ => ⟨Rat.le_of_lt, Rat.le_of_lt, id⟩⟩
    · obtain ⟨y, hy, hy0, hyn⟩ : ∃ y, W y /\ (∀ v ∈ onL c u z, dot c y v = 0) /\ ∀ t : Rat, ¬ ∀ j, j < c -> y j = t * u j := by
        apply Classical.byContradiction
        intro h
        refine hv ⟨hu, hn, fun y h1 h2 => Classical.byContradiction fun h3 => h ⟨y, h1, h2, fun t h4 => h3 ⟨t, h4⟩⟩⟩
      obtain ⟨v0, hv0, hv1⟩ : ∃ v ∈ z, dot c y v ≠ 0 := by
        apply Classical.byContradiction
        intro h
        have := hW.zero y hy fun v hv => Classical.byContradiction fun e => h ⟨v, hv, e⟩
        exact hyn 0 fun j hj => by rw [this j hj]; grind
      have hu0 : ∀ v ∈ z, dot c u v = 0 -> dot c y v = 0 := fun v hv h => hy0 v (List.mem_filter.2 ⟨hv, by simpa using h⟩)
      obtain ⟨y', hy', hy0', hyn', hneg⟩ : ∃ y', W y' /\ (∀ v ∈ z, dot c u v = 0 -> dot c y' v = 0) /\ (∀ t : Rat, ¬ ∀ j, j < c -> y' j = t * u j) /\ ∃ v ∈ z, dot c y' v * dot c u v < 0 := by
        have huv : dot c u v0 ≠ 0 := fun h => hv1 (hu0 v0 hv0 h)
        by_cases hs : dot c y v0 * dot c u v0 < 0
        · exact ⟨y, hy, hu0, hyn, v0, hv0, hs⟩
        · have hne : dot c y v0 * dot c u v0 ≠ 0 := fun h => by rcases Rat.mul_eq_zero.1 h with e | e <;> contradiction
          have hd : ∀ v, dot c (fun j => y j + -2 * y j) v = - dot c y v := fun v => by rw [dot_lin]; grind
          refine ⟨fun j => y j + -2 * y j, hW.lin y y (-2) hy hy, fun v hv h => by rw [hd, hu0 v hv h]; grind, fun t h => hyn (-t) fun j hj => by have := h j hj; grind, v0, hv0, ?_⟩
          rw [hd]; grind
      obtain ⟨w, hw, hwn, hmin⟩ := min_ex (fun v => - dot c u v / dot c y' v) z hneg
      have hne : dot c y' w ≠ 0 := fun h => by rw [h] at hwn; grind
      have hnu : dot c u w ≠ 0 := fun h => by rw [h] at hwn; grind
      obtain ⟨t, ht⟩ : ∃ t, - dot c u w / dot c y' w = t := ⟨_, rfl⟩
      have htw : t * dot c y' w = - dot c u w := by rw [<- ht]; exact Rat.div_mul_cancel hne
      have htp : 0 < t := by
        apply Classical.byContradiction
        intro h
        have h1 := Rat.mul_nonneg (show 0 <= -t by grind) (sq_nonneg (dot c y' w))
        have h2 : t * (dot c y' w * dot c y' w) = - dot c u w * dot c y' w := by rw [<- htw]; grind
        grind
      have hstep : ∀ v ∈ z, (0 < dot c u v -> 0 <= dot c u v + t * dot c y' v) /\ (dot c u v < 0 -> dot c u v + t * dot c y' v <= 0) := fun v hv => by
        by_cases hs : dot c y' v * dot c u v < 0
        · have h1 := hmin v hv hs
          rw [ht] at h1
          have hne2 : dot c y' v ≠ 0 := fun h => by rw [h] at hs; grind
          have h3 : - dot c u v / dot c y' v * dot c y' v = - dot c u v := Rat.div_mul_cancel hne2
          constructor
          · intro hp
            have hyneg : dot c y' v < 0 := by
              apply Classical.byContradiction; intro h
              have := Rat.mul_nonneg (show 0 <= dot c y' v by grind) (Rat.le_of_lt hp); grind
            have h4 := Rat.mul_le_mul_of_nonneg_right h1 (show 0 <= - dot c y' v by grind)
            grind
          · intro hp
            have hypos : 0 < dot c y' v := by
              apply Classical.byContradiction; intro h
              have := Rat.mul_nonneg (show 0 <= - dot c y' v by grind) (show 0 <= - dot c u v by grind); grind
            have h4 := Rat.mul_le_mul_of_nonneg_right h1 (Rat.le_of_lt hypos)
            grind
        · constructor
          · intro hp
            have : 0 <= dot c y' v := by
              apply Classical.byContradiction; intro h
              have := Rat.mul_pos (show 0 < - dot c y' v by grind) hp; grind
            have := Rat.mul_nonneg (Rat.le_of_lt htp) this
            grind
          · intro hp
            have : dot c y' v <= 0 := by
              apply Classical.byContradiction; intro h
              have := Rat.mul_pos (show 0 < dot c y' v by grind) (show 0 < - dot c u v by grind); grind
            have := Rat.mul_nonneg (Rat.le_of_lt htp) (show 0 <= - dot c y' v by grind)
            grind
      have hz2 : ∀ v ∈ z, dot c u v = 0 -> dot c u v + t * dot c y' v = 0 := fun v hv h => by rw [h, hy0' v hv h]; grind
      have hw0 : dot c u w + t * dot c y' w = 0 := by rw [htw]; grind
      obtain ⟨x, hx1, hx2⟩ := ih _ (by
        rw [<- hc]
        refine countP_lt (p := fun v => decide (dot c (fun j => u j + t * y' j) v ≠ 0)) (fun v hv h => ?_) hw ?_ (by simpa using hnu)
        · simp only [decide_eq_true_eq] at h |-
          intro e
          rw [dot_lin] at h
          exact h (hz2 v hv e)
        · exact decide_eq_false fun h => h (by rw [dot_lin]; exact hw0)) (fun j => u j + t * y' j) (hW.lin u y' t hu hy') (nz_of fun h => hyn' (-(1 / t)) fun j hj => by
            have h1 := h j hj
            have h2 : 1 / t * t = 1 := Rat.div_mul_cancel (by grind)
            have h3 : 1 / t * (u j + t * y' j) = 0 := by rw [h1]; grind
            have h4 : 1 / t * (t * y' j) = y' j := by rw [<- Rat.mul_assoc, h2]; grind
            rw [Rat.mul_add, h4] at h3
            grind) rfl
      refine ⟨x, hx1, fun v hv => ?_⟩
      obtain ⟨g1, g2, g3⟩ := hx2 v hv
      rw [dot_lin] at g1 g2 g3
      obtain ⟨s1, s2⟩ := hstep v hv
      refine ⟨fun h => ?_, fun h => ?_, fun h => g3 (hz2 v hv h)⟩
      · have := s1 h
        by_cases e : dot c u v + t * dot c y' v = 0
        · rw [g3 e]; exact Rat.le_refl
        · exact g1 (by grind)
      · have := s2 h
        by_cases e : dot c u v + t * dot c y' v = 0
        · rw [g3 e]; exact Rat.le_refl
        · exact g2 (by grind)
end Go.Lin
namespace Go.Lin
def Ort (c : Nat) (M : List Vec) (y : Vec) : Prop := ∀ v ∈ M, dot c v y = 0
theorem Ort.app {c : Nat} {M L : List Vec} {y : Vec} : Ort c (M ++ L) y ↔ Ort c M y /\ Ort c L y := by
  constructor
  · exact fun h => ⟨fun v hv => h v (List.mem_append_left _ hv), fun v hv => h v (List.mem_append_right _ hv)⟩
  · rintro ⟨h1, h2⟩ v hv
    rcases List.mem_append.1 hv with hv | hv
    · exact h1 v hv
    · exact h2 v hv
theorem dot_linr (c : Nat) (v u y : Vec) (t : Rat) : dot c v (fun j => u j + t * y j) = dot c v u + t * dot c v y := by
  rw [dot_comm, dot_lin, dot_comm c u v, dot_comm c y v]
theorem Ort.lin {c : Nat} {M : List Vec} {u y : Vec} (t : Rat) (hu : Ort c M u) (hy : Ort c M y) : Ort c M (fun j => u j + t * y j) := fun v hv => by
  rw [dot_linr, hu v hv, hy v hv]; grind
theorem Ort.congr {c : Nat} {M : List Vec} {u y : Vec} (h : ∀ j, j < c -> u j = y j) (hu : Ort c M u) : Ort c M y := fun v hv => by
  rw [dot_comm, <- dot_congr h, dot_comm]; exact hu v hv
theorem dot_cmb (c k : Nat) (f : F2) (a : Vec) (v : Vec) : dot c v (fun j => cmb k f a j) = sm k fun i => a i * dot c v (f i) := by
  unfold dot cmb
  rw [sm_congr (g := fun j => sm k fun i => v j * (a i * f i j)) fun j _ => (sm_mul k (v j) _).symm, sm_comm]
  exact sm_congr fun i _ => by rw [<- sm_mul]; exact sm_congr fun j _ => by grind
structure Basis (c : Nat) (P : Vec -> Prop) (k : Nat) (f : F2) : Prop where
  mem : ∀ i, i < k -> P (f i)
  li : LI k c f
  span : ∀ y, P y -> ∃ a : Vec, ∀ j, j < c -> y j = cmb k f a j
theorem li_le {k m c : Nat} {f g : F2} (hf : LI k c f) (h : ∀ i, i < k -> ∃ a : Vec, ∀ j, j < c -> f i j = cmb m g a j) : k <= m := by
  obtain ⟨r, p, d, hr, h1⟩ := rref_ex k c f
  have h2 := hf.full hr h1
  have h3 : ∀ i, ∃ a : Vec, i < k -> ∀ j, j < c -> f i j = cmb m g a j := fun i => by
    by_cases hi : i < k
    · obtain ⟨a, ha⟩ := h i hi; exact ⟨a, fun _ => ha⟩
    · exact ⟨fun _ => 0, fun h => absurd h hi⟩
  have := rank_le hr h1 (fun i => (h3 i).choose) g fun i hi j hj => (h3 i).choose_spec hi j hj
  omega
theorem Basis.le {c : Nat} {P Q : Vec -> Prop} {k m : Nat} {f g : F2} (h : Basis c P k f) (h' : Basis c Q m g) (hPQ : ∀ y, P y -> Q y) : k <= m :=
  li_le h.li fun i hi => h'.span _ (hPQ _ (h.mem i hi))
theorem nul_span {n c : Nat} {r : F2} {p : List Nat} (h : Rref n c r p) {x : Vec} (hx : Nul n c r x) (j : Nat) (hj : j < c) : x j = cmb (nullL r p c).length (ent (nullL r p c)) (fun i => x (((List.range c).filter (· ∉ p)).getD i 0)) j := by
  obtain ⟨F, hF⟩ : ∃ F, (List.range c).filter (· ∉ p) = F := ⟨_, rfl⟩
  have hlen : (nullL r p c).length = F.length := by rw [<- hF]; simp [nullL]
  have he : ∀ i (hi : i < F.length), ent (nullL r p c) i j = nv r p F[i] j := fun i hi => by
    unfold ent nullL
    rw [hF, List.getD_eq_getElem?_getD (l := List.map _ _), List.getElem?_map, List.getElem?_eq_getElem hi]
    simp only [Option.map_some, Option.getD_some]
    rw [List.getD_eq_getElem?_getD, List.getElem?_map, List.getElem?_range hj]; rfl
  have hFm : ∀ q, q ∈ F ↔ q < c /\ q ∉ p := fun q => by rw [<- hF]; simp
  have hnd : F.Pairwise (· < ·) := by rw [<- hF]; exact List.Pairwise.filter _ List.pairwise_lt_range
  have hgd : ∀ i (hi : i < F.length), F.getD i 0 = F[i] := fun i hi => by simp [List.getD_eq_getElem?_getD, hi]
  rw [hF, hlen]
  unfold cmb
  rw [sm_congr (g := fun i => x (F.getD i 0) * nv r p (F.getD i 0) j) fun i hi => by rw [he i hi]; dsimp only; rw [hgd i hi]]
  by_cases hjp : j ∈ p
  · obtain ⟨i0, hi0, rfl⟩ := List.getElem_of_mem hjp
    have hn : ∀ q, q ∉ p -> nv r p q p[i0] = - r i0 q := fun q hq => h.nv_piv hq i0 hi0
    have hrow := h.row i0 hi0 x
    have h0 := hx i0 (by have := h.le; omega)
    rw [hrow] at h0
    have key : ∀ (g : Nat -> Rat), sm F.length (fun i => g (F.getD i 0)) = sm c (fun q => if q ∈ p then 0 else g q) := fun g => by
      have gen : ∀ (k : Nat) (G : List Nat), G = (List.range k).filter (· ∉ p) -> sm G.length (fun i => g (G.getD i 0)) = sm k (fun q => if q ∈ p then 0 else g q) := by
        intro k
        induction k with
        | zero => intro G hG; subst hG; rfl
        | succ k ih =>
          intro G hG
          rw [List.range_succ, List.filter_append] at hG
          have ih := ih _ rfl
          show _ = sm k _ + _
          by_cases hk : k ∈ p
          · have : (List.filter (· ∉ p) [k]) = [] := by simp [hk]
            rw [this, List.append_nil] at hG
            subst hG
            rw [ih]; simp [hk]; grind
          · have : (List.filter (· ∉ p) [k]) = [k] := by simp [hk]
            rw [this] at hG
            subst hG
            obtain ⟨H, hH⟩ : ∃ H, List.filter (· ∉ p) (List.range k) = H := ⟨_, rfl⟩
            rw [hH] at ih |-
            rw [List.length_append, <- ih]
            show sm H.length _ + _ = _
            congr 1
            · exact sm_congr fun i hi => by simp [List.getD_eq_getElem?_getD, List.getElem?_append_left hi]
            · simp [hk, List.getD_eq_getElem?_getD]
      exact gen c F hF.symm
    have k1 := key (fun q => x q * - r i0 q)
    have k2 : sm c (fun q => if q ∈ p then 0 else x q * - r i0 q) = - sm c (fun q => if q ∈ p then 0 else r i0 q * x q) := by
      have := sm_mul c (-1) (fun q => if q ∈ p then 0 else r i0 q * x q)
      rw [show -sm c (fun q => if q ∈ p then 0 else r i0 q * x q) = -1 * sm c (fun q => if q ∈ p then 0 else r i0 q * x q) by grind, <- this]
      exact sm_congr fun q _ => by split <;> grind
    have k3 : sm F.length (fun i => x (F.getD i 0) * nv r p (F.getD i 0) p[i0]) = sm F.length (fun i => x (F.getD i 0) * - r i0 (F.getD i 0)) := sm_congr fun i hi => by
      rw [hgd i hi, hn _ ((hFm _).1 (List.getElem_mem hi)).2]
    rw [k3, k1, k2]
    grind
  · obtain ⟨i0, hi0, hij⟩ := List.getElem_of_mem ((hFm j).2 ⟨hj, hjp⟩)
    rw [sm_one i0 hi0 fun i hi hne => by
      rw [hgd i hi]
      have : F[i] ≠ j := fun e => by
        rw [List.pairwise_iff_getElem] at hnd
        rcases Nat.lt_or_gt_of_ne hne with a | a
        · have := hnd i i0 hi hi0 a; omega
        · have := hnd i0 i hi0 hi a; omega
      rw [nv_free hjp (Ne.symm this)]; grind]
    rw [hgd i0 hi0, hij, nv_self]; grind
theorem basis_null {n c : Nat} {f r : F2} {p : List Nat} {d : Rat} (hr : Rref n c r p) (h : RE n c f r d) : Basis c (Nul n c f) (nullL r p c).length (ent (nullL r p c)) := by
  refine ⟨fun i hi => ?_, nullL_li r p c, fun y hy => ⟨_, fun j hj => nul_span hr ((h.nul y).1 hy) j hj⟩⟩
  have hi' : i < ((List.range c).filter (· ∉ p)).length := by simpa [nullL] using hi
  have hm := List.getElem_mem hi'
  rw [List.mem_filter, List.mem_range] at hm
  have hnp : ((List.range c).filter (· ∉ p))[i] ∉ p := by simpa using hm.2
  have h1 := (h.nul _).2 (hr.nv_nul hnp hm.1)
  intro q hq
  rw [<- h1 q hq]
  refine sm_congr fun j hj => ?_
  congr 1
  unfold ent nullL
  rw [List.getD_eq_getElem?_getD (l := List.map _ _), List.getElem?_map, List.getElem?_eq_getElem hi']
  simp only [Option.map_some, Option.getD_some]
  rw [List.getD_eq_getElem?_getD, List.getElem?_map, List.getElem?_range hj]; rfl
def fL (M : List Vec) : F2 := fun i => M.getD i fun _ => 0
theorem ort_nul (c : Nat) (M : List Vec) (y : Vec) : Ort c M y ↔ Nul M.length c (fL M) y := by
  constructor
  · intro h i hi
    have := h M[i] (List.getElem_mem hi)
    unfold dot at this
    rw [<- this]
    exact sm_congr fun j _ => by simp [fL, List.getD_eq_getElem?_getD, hi]
  · intro h v hv
    obtain ⟨i, hi, rfl⟩ := List.getElem_of_mem hv
    have := h i hi
    unfold dot
    rw [<- this]
    exact sm_congr fun j _ => by simp [fL, List.getD_eq_getElem?_getD, hi]
def Dim (c : Nat) (M : List Vec) (k : Nat) : Prop := ∃ f, Basis c (Ort c M) k f
theorem Basis.of_iff {c : Nat} {P Q : Vec -> Prop} {k : Nat} {f : F2} (h : Basis c P k f) (hPQ : ∀ y, P y ↔ Q y) : Basis c Q k f :=
  ⟨fun i hi => (hPQ _).1 (h.mem i hi), h.li, fun y hy => h.span y ((hPQ y).2 hy)⟩
theorem dim_ex (c : Nat) (M : List Vec) : ∃ k, Dim c M k := by
  obtain ⟨r, p, d, hr, h⟩ := rref_ex M.length c (fL M)
  exact ⟨_, _, (basis_null hr h).of_iff fun y => (ort_nul c M y).symm⟩
theorem Dim.uniq {c : Nat} {M : List Vec} {k m : Nat} (h : Dim c M k) (h' : Dim c M m) : k = m := by
  obtain ⟨f, hf⟩ := h
  obtain ⟨g, hg⟩ := h'
  have := hf.le hg fun _ => id
  have := hg.le hf fun _ => id
  omega
theorem Dim.iff {c : Nat} {M L : List Vec} {k : Nat} (h : Dim c M k) (hML : ∀ y, Ort c M y ↔ Ort c L y) : Dim c L k := let ⟨f, hf⟩ := h; ⟨f, hf.of_iff hML⟩
theorem Dim.more {c : Nat} {M : List Vec} {k : Nat} (h : Dim c M (k + 1)) {v y : Vec} (hy : Ort c M y) (hv : dot c v y ≠ 0) : Dim c (M ++ [v]) k := by
  obtain ⟨f, hf⟩ := h
  obtain ⟨m, g, hg⟩ := dim_ex c (M ++ [v])
  have hext : ∀ a j, cmb (m + 1) (fun i => if i < m then g i else y) a j = cmb m g a j + a m * y j := fun a j => by
    unfold cmb
    show sm m _ + _ = _
    congr 1
    · exact sm_congr fun i hi => by simp [hi]
    · simp
  have hgo : ∀ i, i < m -> Ort c M (g i) /\ dot c v (g i) = 0 := fun i hi => by
    have := Ort.app.1 (hg.mem i hi)
    exact ⟨this.1, this.2 v (by simp)⟩
  have h1 : m + 1 <= k + 1 := by
    refine li_le (c := c) (f := fun i => if i < m then g i else y) (g := f) (fun a ha => ?_) fun i hi => ?_
    · have h0 : dot c v (fun j => cmb m g a j + a m * y j) = 0 := by
        rw [dot_comm]; exact dot_zero fun j hj => by rw [<- hext]; exact ha j hj
      rw [dot_linr c v (fun j => cmb m g a j) y (a m), dot_cmb, sm_zero fun i hi => by rw [(hgo i hi).2]; grind] at h0
      have ham : a m = 0 := by
        have : a m * dot c v y = 0 := by grind
        rcases Rat.mul_eq_zero.1 this with e | e
        · exact e
        · contradiction
      have h2 := hg.li a fun j hj => by have := ha j hj; rw [hext, ham] at this; grind
      intro i hi
      by_cases e : i = m
      · subst e; exact ham
      · exact h2 i (by omega)
    · by_cases hi' : i < m
      · obtain ⟨a, ha⟩ := hf.span _ (hgo i hi').1
        exact ⟨a, fun j hj => by simp only [hi', if_true]; exact ha j hj⟩
      · obtain ⟨a, ha⟩ := hf.span _ hy
        exact ⟨a, fun j hj => by simp only [hi', if_false]; exact ha j hj⟩
  have h2 : k + 1 <= m + 1 := by
    refine li_le (c := c) (f := f) (g := fun i => if i < m then g i else y) hf.li fun i hi => ?_
    have hfi := hf.mem i hi
    obtain ⟨t, ht⟩ : ∃ t, dot c v (f i) / dot c v y = t := ⟨_, rfl⟩
    have ht2 : t * dot c v y = dot c v (f i) := by rw [<- ht]; exact Rat.div_mul_cancel hv
    obtain ⟨a, ha⟩ := hg.span (fun j => f i j + -t * y j) (Ort.app.2 ⟨hfi.lin (-t) hy, fun w hw => by
      have : w = v := by simpa using hw
      subst this
      rw [dot_linr]; grind⟩)
    refine ⟨fun q => if q < m then a q else t, fun j hj => ?_⟩
    rw [hext]
    have h3 := ha j hj
    have h4 : cmb m g (fun q => if q < m then a q else t) j = cmb m g a j := sm_congr fun q hq => by simp [hq]
    simp only [Nat.lt_irrefl, if_false]
    rw [h4]; grind
  have : m = k := by omega
  subst this
  exact ⟨g, hg⟩
theorem Dim.one {c : Nat} {M : List Vec} (h : Dim c M 1) {x : Vec} (hx : Ort c M x) (hn : nz c x) (y : Vec) (hy : Ort c M y) : ∃ t : Rat, ∀ j, j < c -> y j = t * x j := by
  obtain ⟨f, hf⟩ := h
  obtain ⟨a, ha⟩ := hf.span x hx
  obtain ⟨b, hb⟩ := hf.span y hy
  have h1 : ∀ (a : Vec) j, cmb 1 f a j = a 0 * f 0 j := fun a j => by unfold cmb sm sm; grind
  have ha0 : a 0 ≠ 0 := fun e => hn.not fun j hj => by rw [ha j hj, h1, e]; grind
  refine ⟨b 0 / a 0, fun j hj => ?_⟩
  rw [hb j hj, ha j hj, h1, h1, <- Rat.mul_assoc, Rat.div_mul_cancel ha0]
theorem Dim.two {c k : Nat} {M : List Vec} (h : Dim c M (k + 2)) (x : Vec) : ∃ y, Ort c M y /\ ∀ t : Rat, ¬ ∀ j, j < c -> y j = t * x j := by
  apply Classical.byContradiction
  intro hn
  have hall : ∀ y, Ort c M y -> ∃ t : Rat, ∀ j, j < c -> y j = t * x j := fun y hy => Classical.byContradiction fun h2 => hn ⟨y, hy, fun t ht => h2 ⟨t, ht⟩⟩
  obtain ⟨f, hf⟩ := h
  have := li_le (m := 1) (g := fun _ => x) hf.li fun i hi => by
    obtain ⟨t, ht⟩ := hall _ (hf.mem i hi)
    exact ⟨fun _ => t, fun j hj => by rw [ht j hj]; unfold cmb sm sm; grind⟩
  omega
end Go.Lin
namespace Go.Lin
def z0 : Vec := fun _ => 0
def pickV (z : List Vec) (I : List Nat) : List Vec := I.map fun i => z.getD i z0
theorem getV {z : List Vec} {i : Nat} (h : i < z.length) : z.getD i z0 = z[i] := by simp [List.getD_eq_getElem?_getD, h]
theorem sel {c : Nat} (z : List Vec) (x : Vec) (hn : nz c x) : ∀ (r : Nat) (O : List Vec), Dim c O (r + 1) -> Ort c O x -> (∀ y, Ort c O y -> (∀ v ∈ onL c x z, dot c y v = 0) -> ∃ t : Rat, ∀ j, j < c -> y j = t * x j) ->
    ∃ I : List Nat, I.length = r /\ I.Nodup /\ (∀ i ∈ I, i < z.length /\ dot c (z.getD i z0) x = 0 /\ ∃ y, Ort c O y /\ dot c (z.getD i z0) y ≠ 0) /\ ∀ y, Ort c O y -> (∀ i ∈ I, dot c (z.getD i z0) y = 0) -> ∃ t : Rat, ∀ j, j < c -> y j = t * x j := by
  intro r
  induction r with
  | zero => exact fun O hd hx _ => ⟨[], rfl, List.nodup_nil, fun i hi => by simp at hi, fun y hy _ => hd.one hx hn y hy⟩
  | succ r ih =>
    intro O hd hx hv
    obtain ⟨y, hy, hyn⟩ := hd.two x
    obtain ⟨v, hvm, hvy⟩ : ∃ v ∈ onL c x z, dot c y v ≠ 0 := by
      apply Classical.byContradiction
      intro h
      obtain ⟨t, ht⟩ := hv y hy fun v hv => Classical.byContradiction fun e => h ⟨v, hv, e⟩
      exact hyn t ht
    obtain ⟨hvz, hvx⟩ := List.mem_filter.1 hvm
    have hvx : dot c x v = 0 := by simpa using hvx
    obtain ⟨i, hi, rfl⟩ := List.getElem_of_mem hvz
    have hd2 := hd.more (v := z[i]) hy (by rw [dot_comm]; exact hvy)
    obtain ⟨I, h1, h2, h3, h4⟩ := ih (O ++ [z[i]]) hd2 (Ort.app.2 ⟨hx, fun w hw => by
      have : w = z[i] := by simpa using hw
      subst this; rw [dot_comm]; exact hvx⟩) fun y' hy' => hv y' (Ort.app.1 hy').1
    refine ⟨i :: I, by simp [h1], List.nodup_cons.2 ⟨fun hm => ?_, h2⟩, fun q hq => ?_, fun y' hy' hq => ?_⟩
    · obtain ⟨_, _, y', hy', hne⟩ := h3 i hm
      rw [getV hi] at hne
      exact hne ((Ort.app.1 hy').2 _ (by simp))
    · rcases List.mem_cons.1 hq with rfl | hq
      · exact ⟨hi, by rw [getV hi, dot_comm]; exact hvx, y, hy, by rw [getV hi, dot_comm]; exact hvy⟩
      · obtain ⟨a, b, y', hy', hne⟩ := h3 q hq
        exact ⟨a, b, y', (Ort.app.1 hy').1, hne⟩
    · refine h4 y' (Ort.app.2 ⟨hy', fun w hw => ?_⟩) fun q hq' => hq q (List.mem_cons_of_mem _ hq')
      have : w = z[i] := by simpa using hw
      subst this
      have := hq i List.mem_cons_self
      rwa [getV hi] at this
theorem asc {I : List Nat} {n : Nat} (h : I.Nodup) (hn : ∀ i ∈ I, i < n) : ∃ J : List Nat, J.length = I.length /\ J.Pairwise (· < ·) /\ ∀ i, i ∈ J ↔ i ∈ I := by
  refine ⟨(List.range n).filter (· ∈ I), ?_, List.Pairwise.filter _ List.pairwise_lt_range, fun i => ?_⟩
  · refine List.Perm.length_eq ((List.perm_ext_iff_of_nodup ?_ h).2 fun i => ?_)
    · exact List.Pairwise.imp (fun h => Nat.ne_of_lt h) (List.Pairwise.filter _ List.pairwise_lt_range)
    · simp only [List.mem_filter, List.mem_range, decide_eq_true_eq]
      exact ⟨fun h => h.2, fun h => ⟨hn i h, h⟩⟩
  · simp only [List.mem_filter, List.mem_range, decide_eq_true_eq]
    exact ⟨fun h => h.2, fun h => ⟨hn i h, h⟩⟩
theorem dim_one_of {c : Nat} {M : List Vec} {x : Vec} (hn : nz c x) (hx : Ort c M x) (h : ∀ y, Ort c M y -> ∃ t : Rat, ∀ j, j < c -> y j = t * x j) : Dim c M 1 := by
  obtain ⟨k, hk⟩ := dim_ex c M
  match k, hk with
  | 0, hk =>
    obtain ⟨f, hf⟩ := hk
    obtain ⟨a, ha⟩ := hf.span x hx
    exact absurd (fun j hj => by rw [ha j hj]; rfl) hn.not
  | 1, hk => exact hk
  | k + 2, hk =>
    obtain ⟨y, hy, hyn⟩ := hk.two x
    obtain ⟨t, ht⟩ := h y hy
    exact absurd ht (hyn t)
theorem vec_congr {c : Nat} {u x : Vec} (h : ∀ j, j < c -> u j = x j) (z : List Vec) : posN c u z = posN c x z /\ onL c u z = onL c x z /\ cntGe c u z = cntGe c x z := by
  have : ∀ v, dot c u v = dot c x v := fun v => dot_congr h
  unfold posN onL cntGe
  simp only [this]; exact ⟨trivial, trivial, trivial⟩
end Go.Lin
namespace Go.Lin
def lexOk (c : Nat) : List Vec -> Vec -> Bool
  | [], _ => true
  | u :: us, v => decide (0 < dot c u v) || (decide (dot c u v = 0) && lexOk c us v)
def lexc (c : Nat) (us : List Vec) (z : List Vec) : Nat := z.countP fun v => lexOk c us v
theorem lexc_nil (c : Nat) (z : List Vec) : lexc c [] z = z.length := by simp [lexc, lexOk]
theorem lexc_cons (c : Nat) (u : Vec) (us z : List Vec) : lexc c (u :: us) z = posN c u z + lexc c us (onL c u z) := by
  induction z with
  | nil => rfl
  | cons v z ih =>
    unfold lexc posN onL at *
    rw [List.countP_cons, List.countP_cons, List.filter_cons, ih]
    by_cases a : 0 < dot c u v
    · rw [if_pos (by simp [lexOk, a]), if_pos (by simpa using a), if_neg (by simp; grind)]; omega
    · by_cases b : dot c u v = 0
      · rw [if_neg (c := decide (0 < dot c u v) = true) (by simpa using a), if_pos (c := decide (dot c u v = 0) = true) (by simpa using b), List.countP_cons]
        have e : lexOk c (u :: us) v = lexOk c us v := by simp [lexOk, b]
        rw [e]; omega
      · rw [if_neg (by simp [lexOk, a, b]), if_neg (by simpa using a), if_neg (by simpa using b)]; omega
theorem zero_pos {c : Nat} {u : Vec} (h : ¬ nz c u) (z : List Vec) : posN c u z = 0 /\ onL c u z = z := by
  have h0 : ∀ j, j < c -> u j = 0 := fun j hj => Classical.byContradiction fun e => h ⟨j, hj, e⟩
  have hd : ∀ v, dot c u v = 0 := fun v => dot_zero h0
  unfold posN onL
  simp only [hd]
  refine ⟨?_, List.filter_eq_self.2 fun _ _ => by simp⟩
  rw [List.countP_eq_zero]; intro a _; simp
theorem lexc_zero (c : Nat) : ∀ (us z : List Vec), (∀ u ∈ us, ¬ nz c u) -> lexc c us z = z.length
  | [], z, _ => lexc_nil c z
  | u :: us, z, h => by
    obtain ⟨h1, h2⟩ := zero_pos (h u List.mem_cons_self) z
    rw [lexc_cons, h1, h2, lexc_zero c us z fun u hu => h u (List.mem_cons_of_mem _ hu)]; omega
theorem lexc_least {c : Nat} : ∀ (us z : List Vec) (k : Nat), IsDep c z k -> (∃ u ∈ us, nz c u) -> k <= lexc c us z
  | [], _, _, _, h => by obtain ⟨_, h, _⟩ := h; simp at h
  | u :: us, z, k, hk, h => by
    rw [lexc_cons]
    by_cases hu : nz c u
    · obtain ⟨l, hl⟩ := dep_ex (c := c) (by obtain ⟨j, hj, _⟩ := hu; omega) (onL c u z)
      have h1 := hk.lower hu hl
      have h2 : l <= lexc c us (onL c u z) := by
        by_cases hs : ∃ u ∈ us, nz c u
        · exact lexc_least us _ l hl hs
        · rw [lexc_zero c us _ fun u hu hn => hs ⟨u, hu, hn⟩]; exact hl.le
      omega
    · obtain ⟨h1, h2⟩ := zero_pos hu z
      rw [h1, h2]
      have := lexc_least us z k hk (by
        obtain ⟨x, hx, hn⟩ := h
        rcases List.mem_cons.1 hx with rfl | hx
        · exact absurd hn hu
        · exact ⟨x, hx, hn⟩)
      omega
theorem lexOk_zero {c : Nat} {v : Vec} (h : ¬ nz c v) : ∀ us : List Vec, lexOk c us v = true
  | [] => rfl
  | u :: us => by
    have h0 : dot c u v = 0 := by
      rw [dot_comm]; exact dot_zero fun j hj => Classical.byContradiction fun e => h ⟨j, hj, e⟩
    simp [lexOk, h0, lexOk_zero h us]
open Classical in
noncomputable def nzL (c : Nat) (z : List Vec) : List Vec := z.filter fun v => decide (nz c v)
open Classical in
theorem countP_nzL {c : Nat} {p : Vec -> Bool} (hp : ∀ v, ¬ nz c v -> p v = true) (z : List Vec) : z.countP p = (nzL c z).countP p + (z.length - (nzL c z).length) := by
  induction z with
  | nil => rfl
  | cons v z ih =>
    have hle : (nzL c z).length <= z.length := List.length_filter_le ..
    unfold nzL at *
    rw [List.filter_cons, List.countP_cons]
    by_cases h : nz c v
    · rw [if_pos (c := decide (nz c v) = true) (by simpa using h), List.countP_cons, List.length_cons, List.length_cons, ih]; omega
    · rw [if_neg (c := decide (nz c v) = true) (by simpa using h), List.length_cons, if_pos (hp v h), ih]; omega
theorem lexc_nzL (c : Nat) (us z : List Vec) : lexc c us z = lexc c us (nzL c z) + (z.length - (nzL c z).length) := countP_nzL (fun _ h => lexOk_zero h us) z
theorem cntGe_nzL (c : Nat) (u : Vec) (z : List Vec) : cntGe c u z = cntGe c u (nzL c z) + (z.length - (nzL c z).length) := countP_nzL (fun v h => by
  have h0 : dot c u v = 0 := by rw [dot_comm]; exact dot_zero fun j hj => Classical.byContradiction fun e => h ⟨j, hj, e⟩
  simp [h0]) z
theorem IsDep.nzL {c k : Nat} {z : List Vec} (h : IsDep c (nzL c z) k) : IsDep c z (k + (z.length - (nzL c z).length)) := by
  obtain ⟨⟨u, h1, h2⟩, h3⟩ := h
  refine ⟨⟨u, h1, by rw [cntGe_nzL, h2]⟩, fun v hv => ?_⟩
  rw [cntGe_nzL]; have := h3 v hv; omega
structure Wit (c : Nat) (z : List Vec) (n : Nat) (us : List Vec) : Prop where
  head : ∃ u t, us = u :: t /\ nz c u
  cnt : lexc c us z = n
  few : ∀ k, Dim c z k -> us.length + k <= c \/ us.length = 1
theorem Wit.least {c n k : Nat} {z us : List Vec} (h : Wit c z n us) (hk : IsDep c z k) : k <= n := by
  obtain ⟨u, t, rfl, hu⟩ := h.head
  rw [<- h.cnt]; exact lexc_least _ _ _ hk ⟨u, List.mem_cons_self, hu⟩
theorem Wit.one {c : Nat} {z : List Vec} {u : Vec} (hu : nz c u) (ho : onL c u z = []) : Wit c z (posN c u z) [u] :=
  ⟨⟨u, [], rfl, hu⟩, by rw [lexc_cons, ho]; rfl, fun _ _ => Or.inr rfl⟩
theorem Dim.lt {c k m : Nat} {z L : List Vec} {u : Vec} (h : Dim c z k) (h' : Dim c L m) (hs : ∀ v ∈ L, v ∈ z) (hu : Ort c L u) (hn : ∃ v ∈ z, dot c v u ≠ 0) : k < m := by
  obtain ⟨v, hv, hne⟩ := hn
  rcases m with _ | m
  · obtain ⟨f, hf⟩ := h'
    obtain ⟨a, ha⟩ := hf.span u hu
    exact absurd (by rw [dot_comm]; exact dot_zero fun j hj => by rw [ha j hj]; rfl) hne
  · obtain ⟨g, hg⟩ := h'.more hu hne
    obtain ⟨f, hf⟩ := h
    have := hf.le hg fun y hy => Ort.app.2 ⟨fun x hx => hy x (hs x hx), fun x hx => by simp at hx; subst hx; exact hy _ hv⟩
    omega
theorem Dim.lt_c {c k : Nat} {z : List Vec} (h : Dim c z k) (hz : ∃ v ∈ z, nz c v) : k < c := by
  obtain ⟨v, hv, hn⟩ := hz
  obtain ⟨m, hm⟩ := dim_ex c []
  have h1 := h.lt hm (by simp) (u := v) (by simp [Ort]) ⟨v, hv, fun e => hn.not (dot_self e)⟩
  obtain ⟨f, hf⟩ := hm
  have := li_le (m := c) (g := fun i j => if j = i then 1 else 0) hf.li fun i _ => ⟨f i, fun j hj => by unfold cmb; rw [sm_one j hj fun i _ hi => by simp [Ne.symm hi]]; simp⟩
  omega
theorem Wit.more {c l : Nat} {z us : List Vec} {u : Vec} (hu : nz c u) (h : Wit c (onL c u z) l us) (ho : ∃ v ∈ onL c u z, nz c v) (hn : ∃ v ∈ z, dot c v u ≠ 0) : Wit c z (posN c u z + l) (u :: us) :=
  ⟨⟨u, us, rfl, hu⟩, by rw [lexc_cons, h.cnt], fun k hk => by
    obtain ⟨m, hm⟩ := dim_ex c (onL c u z)
    have h1 := hk.lt hm (fun v hv => (List.mem_filter.1 hv).1) (u := u) (fun v hv => by rw [dot_comm]; simpa using (List.mem_filter.1 hv).2) hn
    have h2 := hm.lt_c ho
    rcases h.few m hm with h3 | h3
    · left; simp; omega
    · left; simp; omega⟩
def Tried (c : Nat) (z O : List Vec) (cnt : Nat) (I : List Nat) : Prop := Dim c (pickV z I ++ O) 1 -> ∀ x, nz c x -> Ort c (pickV z I ++ O) x -> ∀ l, IsDep c (onL c x z) l -> cnt <= posN c x z + l
theorem Tried.le {c : Nat} {z O : List Vec} {m n : Nat} {I : List Nat} (h : Tried c z O n I) (hm : m <= n) : Tried c z O m I := fun h1 x h2 h3 l h4 => Nat.le_trans hm (h h1 x h2 h3 l h4)
end Go.Lin
namespace Go.Lin
def vec (l : List Rat) : Vec := fun j => l.getD j 0
def vecs (m : Mat) : List Vec := m.map vec
noncomputable def nullM (m : Mat) (c : Nat) : Mat := nullL (ent (redP m c).1) (redP m c).2 c
theorem fL_vecs (m : Mat) : ∀ i j, fL (vecs m) i j = ent m i j := fun i j => by
  unfold fL vecs ent
  rw [List.getD_eq_getElem?_getD, List.getElem?_map, List.getD_eq_getElem?_getD]
  rcases h : m[i]? with _ | r
  · simp [h]
  · simp [vec, h]
theorem ort_vecs {n c : Nat} {m : Mat} (hs : Shp n c m) (y : Vec) : Ort c (vecs m) y ↔ Nul n c (ent m) y := by
  rw [ort_nul, show (vecs m).length = n by simp [vecs, hs.1]]
  unfold Nul
  simp only [fL_vecs]
theorem null_basis {n c : Nat} {m : Mat} (hs : Shp n c m) : Basis c (Ort c (vecs m)) (nullM m c).length (ent (nullM m c)) := by
  obtain ⟨_, h2, d, h3⟩ := redP_ok hs
  exact (basis_null h2 h3).of_iff fun y => (ort_vecs hs y).symm
theorem null_dim {n c : Nat} {m : Mat} (hs : Shp n c m) : Dim c (vecs m) (nullM m c).length := ⟨_, null_basis hs⟩
theorem nullM_row {m : Mat} {c : Nat} : ∀ l ∈ nullM m c, l.length = c := fun l hl => by
  unfold nullM nullL at hl
  obtain ⟨j, _, rfl⟩ := List.mem_map.1 hl
  simp
theorem nullM_shp (m : Mat) (c : Nat) : Shp (nullM m c).length c (nullM m c) := ⟨rfl, nullM_row⟩
theorem nullM_len {n c : Nat} {m : Mat} (hs : Shp n c m) : (nullM m c).length = c - (redP m c).2.length := nullL_len (redP_ok hs).2.1
theorem dim_null {n c : Nat} {m : Mat} (hs : Shp n c m) : Dim c (vecs (nullM m c)) (redP m c).2.length := by
  have h1 := null_dim (nullM_shp m c)
  have h2 := nullM_len (nullM_shp m c)
  have h3 := nullM_len hs
  have h4 : (redP m c).2.length <= c := by
    have hr := (redP_ok hs).2.1
    have h7 : (redP m c).2.Nodup := (hr.pw).imp (fun h => Nat.ne_of_lt h)
    have h8 : (redP m c).2.length <= (List.range c).length := h7.length_le_of_subset fun x hx => by
      obtain ⟨k, hk, rfl⟩ := List.getElem_of_mem hx
      exact List.mem_range.2 (hr.lt k hk)
    simpa using h8
  have h5 : (redP (nullM m c) c).2.length = (nullM m c).length := by
    obtain ⟨_, a, d, b⟩ := redP_ok (nullM_shp m c)
    exact (nullL_li _ _ _).full a b
  rw [h2, h5, h3] at h1
  rwa [show c - (c - (redP m c).2.length) = (redP m c).2.length by omega] at h1
theorem dim_full (c : Nat) : Dim c [] c := by
  have := dim_null (n := 0) (c := c) (m := []) ⟨rfl, by simp⟩
  refine ⟨fun i j => if j = i then 1 else 0, ⟨fun i _ => by simp [Ort], fun y h i hi => ?_, fun y _ => ⟨y, fun j hj => ?_⟩⟩⟩
  · have := h i hi
    unfold cmb at this
    rw [sm_one i hi fun k _ hk => by simp [Ne.symm hk]] at this
    simpa using this
  · unfold cmb; rw [sm_one j hj fun k _ hk => by simp [Ne.symm hk]]; simp
theorem dirs_full {c : Nat} {z : List Vec} (hc : 0 < c) (h : ∀ y, (∀ v ∈ z, dot c y v = 0) -> ∀ j, j < c -> y j = 0) : Dirs c z (Ort c []) :=
  ⟨fun _ _ _ _ _ => by simp [Ort], fun y _ hy => h y hy, fun u => ⟨u, by simp [Ort], fun _ _ => rfl⟩, ⟨fun _ => 1, by simp [Ort], 0, hc, by grind⟩⟩
section
variable {n c : Nat} {m : Mat} (hs : Shp n c m)
include hs
end
end Go.Lin
