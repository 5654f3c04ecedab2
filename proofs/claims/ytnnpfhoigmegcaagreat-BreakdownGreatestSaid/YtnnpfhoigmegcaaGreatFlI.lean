/- Parts of a proof: each theorem states what it proves, and its conditions. -/
import Derived.Test.YtnnpfhoigmegcaaGreatFlH
import Derived.OrdersHeld
import Derived.StillTail
import Derived.Deep.RegionHeld
import Derived.WalkKit
import Derived.Sort.WalkA
import Derived.Shelf.Abstract
import Derived.Lib.ReflectliteSwap
import Derived.Lib.ReflectliteSlice
import Derived.WalkMore
import Derived.ArgAppend
namespace Go.Lin
open Go.Lim
def absR (q : Rat) : Rat := if q < 0 then -q else q
theorem absR_pos {q : Rat} (h : 0 <= q) : absR q = q := by unfold absR; rw [if_neg (by grind)]
theorem absR_neg {q : Rat} (h : q <= 0) : absR q = -q := by
  unfold absR; split
  · rfl
  · have : q = 0 := by grind
    rw [this]; decide +kernel
theorem absR_nn (q : Rat) : 0 <= absR q := by unfold absR; split <;> grind
theorem absR_zero : absR 0 = 0 := by decide +kernel
theorem absR_mul (a b : Rat) : absR (a * b) = absR a * absR b := by
  rcases Rat.le_total (a := 0) (b := a) with ha | ha <;> rcases Rat.le_total (a := 0) (b := b) with hb | hb
  · rw [absR_pos ha, absR_pos hb, absR_pos (Rat.mul_nonneg ha hb)]
  · have h := Rat.mul_nonneg ha (show 0 <= -b by grind)
    rw [absR_pos ha, absR_neg hb, absR_neg (show a * b <= 0 by grind)]; grind
  · have h := Rat.mul_nonneg (show 0 <= -a by grind) hb
    rw [absR_neg ha, absR_pos hb, absR_neg (show a * b <= 0 by grind)]; grind
  · have h := Rat.mul_nonneg (show 0 <= -a by grind) (show 0 <= -b by grind)
    rw [absR_neg ha, absR_neg hb, absR_pos (show 0 <= a * b by grind)]; grind
theorem absR_ne {q : Rat} (h : q ≠ 0) : 0 < absR q := by unfold absR; split <;> grind
def GW (c : Nat) (w : Nat -> Rat) (z : List Vec) (d : Vec) : Rat := sm z.length fun i => w i * absR (dot c d (z.getD i z0))
theorem GW_congr {c : Nat} {w : Nat -> Rat} {z : List Vec} {d e : Vec} {t : Rat} (h : ∀ j, j < c -> d j = t * e j) : GW c w z d = absR t * GW c w z e := by
  unfold GW
  rw [<- sm_mul]
  refine sm_congr fun i _ => ?_
  rw [dot_congr h, dot_mul, absR_mul]; grind
theorem GW_zero {c : Nat} {w : Nat -> Rat} {z : List Vec} {d : Vec} (h : ∀ v ∈ z, dot c d v = 0) : GW c w z d = 0 := sm_zero fun i hi => by
  rw [h _ (by rw [getV hi]; exact List.getElem_mem _), absR_zero]; grind
theorem cone {c : Nat} {w : Nat -> Rat} {z : List Vec} (hD : Dirs c z (Ort c [])) (hv : ∀ x, Vertex c (Ort c []) z x -> GW c w z x <= 0) : ∀ (n : Nat) (d : Vec), z.countP (fun v => decide (dot c d v ≠ 0)) = n -> GW c w z d <= 0 := by
  intro n
  induction n using Nat.strongRecOn with
  | _ n ih =>
    intro d hd
    by_cases hz : ∀ v ∈ z, dot c d v = 0
    · rw [GW_zero hz]; exact Rat.le_refl
    · obtain ⟨v0, hv0, hne0⟩ : ∃ v ∈ z, dot c d v ≠ 0 := by
        apply Classical.byContradiction
        intro h
        exact hz fun v hv => Classical.byContradiction fun e => h ⟨v, hv, e⟩
      obtain ⟨x, hx, hs⟩ := vertex_ex hD _ d (by simp [Ort]) (nz_dot hne0) rfl
      obtain ⟨v1, hv1, hne1⟩ : ∃ v ∈ z, dot c x v ≠ 0 := by
        apply Classical.byContradiction
        intro h
        exact hx.2.1.not (hD.zero x hx.1 fun v hv => Classical.byContradiction fun e => h ⟨v, hv, e⟩)
      obtain ⟨u, hu, hune, hmin⟩ := min_ex (P := fun v => dot c x v ≠ 0) (fun v => dot c d v / dot c x v) z ⟨v1, hv1, hne1⟩
      obtain ⟨s, hse⟩ : ∃ s, dot c d u / dot c x u = s := ⟨_, rfl⟩
      rw [hse] at hmin
      have hlin : ∀ v, dot c (fun j => d j + (-s) * x j) v = dot c d v + (-s) * dot c x v := fun v => dot_lin c d x _ v
      have hrat : ∀ v ∈ z, dot c x v ≠ 0 -> (0 < dot c x v /\ s * dot c x v <= dot c d v /\ 0 < dot c d v) \/ (dot c x v < 0 /\ dot c d v <= s * dot c x v /\ dot c d v < 0) := fun v hvz hvn => by
        obtain ⟨s1, s2, s3⟩ := hs v hvz
        have hm := hmin v hvz hvn
        have he : dot c d v / dot c x v * dot c x v = dot c d v := Rat.div_mul_cancel hvn
        rcases Rat.le_total (a := 0) (b := dot c x v) with h | h
        · left
          have hp : 0 < dot c x v := by grind
          have hdp : 0 < dot c d v := by
            apply Classical.byContradiction
            intro hn
            by_cases h0 : dot c d v = 0
            · exact hvn (s3 h0)
            · have := s2 (by grind); grind
          refine ⟨hp, ?_, hdp⟩
          have := Rat.mul_le_mul_of_nonneg_right hm h
          rw [he] at this; exact this
        · right
          have hp : dot c x v < 0 := by grind
          have hdp : dot c d v < 0 := by
            apply Classical.byContradiction
            intro hn
            by_cases h0 : dot c d v = 0
            · exact hvn (s3 h0)
            · have := s1 (by grind); grind
          refine ⟨hp, ?_, hdp⟩
          have := Rat.mul_le_mul_of_nonneg_right hm (show 0 <= -dot c x v by grind)
          grind
      have hs0 : 0 <= s := by
        rcases hrat u hu hune with ⟨a, _, b⟩ | ⟨a, _, b⟩
        · have he : s * dot c x u = dot c d u := by rw [<- hse]; exact Rat.div_mul_cancel hune
          apply Classical.byContradiction
          intro hn
          have := Rat.mul_nonneg (show 0 <= -s by grind) (Rat.le_of_lt a)
          grind
        · have he : s * dot c x u = dot c d u := by rw [<- hse]; exact Rat.div_mul_cancel hune
          apply Classical.byContradiction
          intro hn
          have := Rat.mul_nonneg (show 0 <= -s by grind) (show 0 <= -dot c x u by grind)
          grind
      have habs : ∀ v ∈ z, absR (dot c d v) = absR (dot c (fun j => d j + (-s) * x j) v) + s * absR (dot c x v) := fun v hvz => by
        rw [hlin]
        by_cases hvn : dot c x v = 0
        · rw [hvn, absR_zero]
          rw [show dot c d v + -s * 0 = dot c d v by grind]; grind
        · rcases hrat v hvz hvn with ⟨a, b, e⟩ | ⟨a, b, e⟩
          · rw [absR_pos (Rat.le_of_lt e), absR_pos (Rat.le_of_lt a), absR_pos (show 0 <= dot c d v + -s * dot c x v by grind)]; grind
          · rw [absR_neg (Rat.le_of_lt e), absR_neg (Rat.le_of_lt a), absR_neg (show dot c d v + -s * dot c x v <= 0 by grind)]; grind
      have hG : GW c w z d = GW c w z (fun j => d j + (-s) * x j) + s * GW c w z x := by
        unfold GW
        rw [<- sm_mul, <- sm_add]
        refine sm_congr fun i hi => ?_
        rw [habs _ (by rw [getV hi]; exact List.getElem_mem _)]; grind
      have hcl : z.countP (fun v => decide (dot c (fun j => d j + (-s) * x j) v ≠ 0)) < n := by
        rw [<- hd]
        refine countP_lt (a := u) (fun v hvz h => ?_) hu ?_ ?_
        · have h : dot c (fun j => d j + (-s) * x j) v ≠ 0 := by simpa using h
          rw [hlin] at h
          simp only [decide_eq_true_eq, ne_eq]
          intro h0
          have := (hs v hvz).2.2 h0
          rw [h0, this] at h; exact h (by grind)
        · have he : s * dot c x u = dot c d u := by rw [<- hse]; exact Rat.div_mul_cancel hune
          simp only [decide_eq_false_iff_not, ne_eq, Classical.not_not]
          rw [hlin]; grind
        · rcases hrat u hu hune with ⟨_, _, b⟩ | ⟨_, _, b⟩
          · simp only [decide_eq_true_eq, ne_eq]; grind
          · simp only [decide_eq_true_eq, ne_eq]; grind
      have h1 := ih _ hcl _ rfl
      have h2 := Rat.mul_nonneg hs0 (show 0 <= -GW c w z x by have := hv x hx; grind)
      rw [hG]; grind
def topS (l : List Rat) (m : Nat) : Rat := sumL ((srt l).drop (l.length - m))
theorem sumL_nn {l : List Rat} (h : ∀ x ∈ l, 0 <= x) : 0 <= sumL l := by
  induction l with
  | nil => rw [sumL_nil]; exact Rat.le_refl
  | cons a l ih =>
    rw [sumL_cons]
    have h1 := h a List.mem_cons_self
    have h2 := ih fun x hx => h x (List.mem_cons_of_mem _ hx)
    grind
theorem top_ge : ∀ (k : Nat) (s a r : List Rat) (m : Nat), s.length = k -> s.Pairwise (· <= ·) -> (∀ x ∈ s, 0 <= x) -> (a ++ r).Perm s -> a.length <= m -> sumL a <= sumL (s.drop (s.length - m))
  | k, s, [], r, m, hk, hs, hn, hp, hm => by
    rw [sumL_nil]; exact sumL_nn fun x hx => hn x (List.mem_of_mem_drop hx)
  | 0, s, a :: t, r, m, hk, hs, hn, hp, hm => by have := hp.length_eq; simp [hk] at this
  | k + 1, s, a :: t, r, m, hk, hs, hn, hp, hm => by
    rcases List.eq_nil_or_concat s with rfl | ⟨s', v, rfl⟩
    · simp at hk
    · rw [List.concat_eq_append] at *
      obtain ⟨m, rfl⟩ : ∃ q, m = q + 1 := ⟨m - 1, by simp at hm; omega⟩
      have hk' : s'.length = k := by simpa using hk
      have hle : ∀ x ∈ s', x <= v := fun x hx => (List.pairwise_append.1 hs).2.2 x hx v (by simp)
      have hs' := (List.pairwise_append.1 hs).1
      have hn' : ∀ x ∈ s', 0 <= x := fun x hx => hn x (List.mem_append_left _ hx)
      have hdr : sumL ((s' ++ [v]).drop ((s' ++ [v]).length - (m + 1))) = sumL (s'.drop (s'.length - m)) + v := by
        rw [List.length_append, List.length_singleton, show s'.length + 1 - (m + 1) = s'.length - m by omega, List.drop_append_of_le_length (by omega), sumL_app, sumL_cons, sumL_nil]; grind
      rw [hdr, sumL_cons]
      by_cases hva : v ∈ a :: t
      · obtain ⟨t', ht'⟩ : ∃ t', (a :: t).Perm (v :: t') := ⟨_, List.perm_cons_erase hva⟩
        have hsum : a + sumL t = v + sumL t' := by rw [<- sumL_cons, <- sumL_cons]; exact sumL_perm ht'
        have hp2 : (t' ++ r).Perm s' := by
          have h1 : (v :: (t' ++ r)).Perm (v :: s') := ((ht'.symm.append_right r).trans hp).trans (List.perm_append_comm)
          exact h1.cons_inv
        have hl : t'.length <= m := by have := ht'.length_eq; simp at this hm; omega
        have := top_ge k s' t' r m hk' hs' hn' hp2 hl
        rw [hsum]; grind
      · have hvr : v ∈ r := by
          have : v ∈ (a :: t) ++ r := hp.mem_iff.2 (by simp)
          rcases List.mem_append.1 this with h | h
          · exact absurd h hva
          · exact h
        obtain ⟨r', hr'⟩ : ∃ r', r.Perm (v :: r') := ⟨_, List.perm_cons_erase hvr⟩
        have hp2 : (t ++ (a :: r')).Perm s' := by
          have h1 : (v :: (t ++ (a :: r'))).Perm (v :: s') := by
            refine List.Perm.trans ?_ (hp.trans List.perm_append_comm)
            have h2 : ((a :: t) ++ r).Perm ((a :: t) ++ (v :: r')) := hr'.append_left _
            refine List.Perm.trans ?_ h2.symm
            have h3 : ((a :: t) ++ (v :: r')).Perm (v :: ((a :: t) ++ r')) := List.perm_middle
            refine List.Perm.trans ?_ h3.symm
            refine List.Perm.cons v ?_
            exact List.perm_middle
          exact h1.cons_inv
        have hav : a <= v := hle a (hp2.mem_iff.1 (by simp))
        have := top_ge k s' t (a :: r') m hk' hs' hn' hp2 (by simp at hm; omega)
        grind
theorem topS_ge {l a r : List Rat} {m : Nat} (hn : ∀ x ∈ l, 0 <= x) (hp : (a ++ r).Perm l) (hm : a.length <= m) : sumL a <= topS l m := by
  have := top_ge _ (srt l) a r m rfl (srt_pw l) (fun x hx => hn x ((srt_perm l).mem_iff.1 hx)) (hp.trans (srt_perm l).symm) hm
  rw [srt_len] at this
  exact this
theorem topS_all (l : List Rat) : topS l l.length = sumL l := by
  unfold topS
  rw [Nat.sub_self, List.drop_zero]; exact sumL_perm (srt_perm l)
theorem topS_zero (l : List Rat) : topS l 0 = 0 := by
  unfold topS
  rw [List.drop_of_length_le (by rw [srt_len]; omega), sumL_nil]
def absP (x : Mat) (c : Nat) (d : List Rat) : List Rat := x.map fun r => absR (dot c (vec d) (vec r))
theorem absP_nn {x : Mat} {c : Nat} {d : List Rat} : ∀ q ∈ absP x c d, 0 <= q := fun q hq => by
  obtain ⟨r, _, rfl⟩ := List.mem_map.1 hq; exact absR_nn _
theorem absP_len (x : Mat) (c : Nat) (d : List Rat) : (absP x c d).length = x.length := by simp [absP]
def partL (x : Mat) (c : Nat) (d : List Rat) (m : Nat) : Rat := topS (absP x c d) m / sumL (absP x c d)
def maxQ (a b : Rat) : Rat := if a < b then b else a
noncomputable def shareL (x : Mat) (c m : Nat) : Rat := ((raysL x c).map fun d => partL x c d m).foldl maxQ 0
theorem foldQ (l : List Rat) : ∀ a, a <= l.foldl maxQ a /\ (∀ k ∈ l, k <= l.foldl maxQ a) /\ (l.foldl maxQ a = a \/ l.foldl maxQ a ∈ l) := by
  induction l with
  | nil => intro a; simp
  | cons b l ih =>
    intro a
    obtain ⟨h1, h2, h3⟩ := ih (maxQ a b)
    have ha : a <= maxQ a b := by unfold maxQ; split <;> grind
    have hb : b <= maxQ a b := by unfold maxQ; split <;> grind
    refine ⟨by simp only [List.foldl_cons]; exact Rat.le_trans ha h1, fun k hk => ?_, ?_⟩
    · simp only [List.foldl_cons]
      rcases List.mem_cons.1 hk with rfl | hk
      · exact Rat.le_trans hb h1
      · exact h2 k hk
    · simp only [List.foldl_cons]
      rcases h3 with h3 | h3
      · rw [h3]
        unfold maxQ
        split
        · exact Or.inr List.mem_cons_self
        · exact Or.inl rfl
      · exact Or.inr (List.mem_cons_of_mem _ h3)
theorem share_ge {x : Mat} {c m : Nat} {d : List Rat} (h : d ∈ raysL x c) : partL x c d m <= shareL x c m := (foldQ _ 0).2.1 _ (List.mem_map.2 ⟨d, h, rfl⟩)
theorem share_le {x : Mat} {c m : Nat} {b : Rat} (h0 : 0 <= b) (h : ∀ d ∈ raysL x c, partL x c d m <= b) : shareL x c m <= b := by
  rcases (foldQ ((raysL x c).map fun d => partL x c d m) 0).2.2 with e | e
  · unfold shareL; rw [e]; exact h0
  · unfold shareL
    obtain ⟨d, hd, e2⟩ := List.mem_map.1 e
    rw [<- e2]; exact h d hd
end Go.Lin
namespace Go.Lin
theorem vecs_filter {z : Mat} {p : List Rat -> Bool} {q : Vec -> Bool} (h : ∀ r ∈ z, p r = q (vec r)) : vecs (z.filter p) = (vecs z).filter q := by
  unfold vecs
  rw [List.filter_map]
  exact congrArg _ (List.filter_congr fun r hr => h r hr)
def zeroB (r : List Rat) : Bool := r.all fun x => decide (x = 0)
theorem nz_vec {c : Nat} {r : List Rat} (hr : r.length = c) : nz c (vec r) ↔ zeroB r = false := by
  constructor
  · rintro ⟨j, hj, hne⟩
    rw [<- Bool.not_eq_true]
    intro h
    unfold zeroB at h
    rw [List.all_eq_true] at h
    have hj' : j < r.length := by omega
    have := h r[j] (List.getElem_mem hj')
    apply hne
    unfold vec
    rw [List.getD_eq_getElem?_getD, List.getElem?_eq_getElem hj']
    simpa using this
  · intro h
    apply nz_of
    intro hz
    rw [<- Bool.not_eq_true] at h
    apply h
    unfold zeroB
    rw [List.all_eq_true]
    intro x hx
    obtain ⟨j, hj, rfl⟩ := List.getElem_of_mem hx
    have := hz j (by omega)
    unfold vec at this
    rw [List.getD_eq_getElem?_getD, List.getElem?_eq_getElem hj] at this
    simpa using this
def others (z : Mat) : Mat := z.filter fun r => !zeroB r
theorem others_vecs {n c : Nat} {z : Mat} (hs : Shp n c z) : vecs (others z) = nzL c (vecs z) := vecs_filter fun r hr => by
  by_cases h : zeroB r = false
  · rw [h]; have := (nz_vec (hs.2 r hr)).2 h; simp [this]
  · have h2 : ¬ nz c (vec r) := fun k => h ((nz_vec (hs.2 r hr)).1 k)
    simp [h2]; simpa using h
def Sofar (c : Nat) (z : Mat) (cnt : Nat) (us : Mat) : Prop := (cnt = z.length + 1 /\ us = []) \/ Wit c (vecs z) cnt (vecs us)
section
variable {n c : Nat} {z : Mat} (hs : Shp n c z) (hz : ∀ v ∈ vecs z, nz c v) (hne : z ≠ [])
include hs hz hne
end
theorem back {n c cnt : Nat} {z us : Mat} (hs : Shp n c z) (h : IsDep c (vecs (others z)) cnt) (hw : Wit c (vecs (others z)) cnt (vecs us)) :
    IsDep c (vecs z) (cnt + (z.length - (others z).length)) /\ Wit c (vecs z) (cnt + (z.length - (others z).length)) (vecs us) := by
  have e : (others z).length = (nzL c (vecs z)).length := by rw [<- others_vecs hs]; simp [vecs]
  have e2 : z.length = (vecs z).length := by simp [vecs]
  rw [e, e2]
  rw [others_vecs hs] at h hw
  refine ⟨h.nzL, hw.head, by rw [lexc_nzL, hw.cnt], fun k hk => hw.few k (hk.iff fun y => ⟨fun hy v hv => hy v (List.mem_filter.1 hv).1, fun hy v hv => ?_⟩)⟩
  by_cases hn : nz c v
  · exact hy v (List.mem_filter.2 ⟨hv, by simpa using hn⟩)
  · exact dot_zero fun j hj => Classical.byContradiction fun e => hn ⟨j, hj, e⟩
end Go.Lin
namespace Go.Lin
open Go.Lim
theorem eN_len_succ (m : Mat) (k : Nat) : (eN m k).2.1.length <= (eN m (k + 1)).2.1.length := by
  show _ <= (eStep (eN m k) k).2.1.length
  unfold eStep
  split
  · exact Nat.le_refl _
  · split
    · exact Nat.le_refl _
    · simp
theorem eN_len_mono (m : Mat) {j : Nat} : ∀ {c : Nat}, j <= c -> (eN m j).2.1.length <= (eN m c).2.1.length := by
  intro c
  induction c with
  | zero => intro h; obtain rfl : j = 0 := by omega
            exact Nat.le_refl _
  | succ c ih =>
    intro h
    rcases Nat.lt_or_ge j (c + 1) with h1 | h1
    · exact Nat.le_trans (ih (by omega)) (eN_len_succ m c)
    · obtain rfl : j = c + 1 := by omega
      exact Nat.le_refl _
theorem redP_piv (m : Mat) (c : Nat) : (redP m c).2 = (eN m c).2.1 := rfl
theorem tame_rank {n c B k : Nat} {m : Mat} (hs : Shp n c m) (h : HB B m) (hk : (redP m c).2.length <= k) (hB : 7 * (35 ^ k * B) <= 68719476736) : Tame m c := by
  rw [redP_piv] at hk
  have hle : ∀ j, j <= c -> (eN m j).2.1.length <= k := fun j hj => Nat.le_trans (eN_len_mono m hj) hk
  refine ⟨35 ^ k * B, hB, fun j hj => (h.eN hs j).mono (Nat.mul_le_mul_right _ ?_), fun t ht => (((h.eN hs c).dN (eN_ok hs c).shp (eN_ok hs c).ech t ht)).mono ?_⟩
  · exact Nat.le_trans (pow_le 5 (by omega) (hle j hj)) (Nat.pow_le_pow_left (by omega) k)
  · rw [<- Nat.mul_assoc]
    refine Nat.mul_le_mul_right _ ?_
    rw [show (35 : Nat) = 7 * 5 from rfl, Nat.mul_pow]
    exact Nat.mul_le_mul (pow_le 7 (by omega) (Nat.le_trans ht hk)) (pow_le 5 (by omega) hk)
theorem hb_redP_rank {n c B k : Nat} {m : Mat} (h : HB B m) (hs : Shp n c m) (hk : (redP m c).2.length <= k) : HB (35 ^ k * B) (redP m c).1 := by
  rw [redP_piv] at hk
  refine ((h.eN hs c).dN (eN_ok hs c).shp (eN_ok hs c).ech _ (Nat.le_refl _)).mono ?_
  rw [<- Nat.mul_assoc]
  refine Nat.mul_le_mul_right _ ?_
  rw [show (35 : Nat) = 7 * 5 from rfl, Nat.mul_pow]
  exact Nat.mul_le_mul (pow_le 7 (by omega) hk) (pow_le 5 (by omega) hk)
theorem piv_le_cols {n c : Nat} {m : Mat} (hs : Shp n c m) : (redP m c).2.length <= c := by
  have hr := (redP_ok hs).2.1
  have hlt := hr.lt
  have hinc := hr.inc
  generalize (redP m c).2 = p at hlt hinc
  have key : ∀ i (hi : i < p.length), i <= p[i] := by
    intro i
    induction i with
    | zero => intro _; exact Nat.zero_le _
    | succ i ih => intro hi; have := ih (by omega); have := hinc i (i + 1) (by omega) hi; omega
  rcases Nat.eq_zero_or_pos p.length with h | h
  · omega
  · have := key (p.length - 1) (by omega)
    have := hlt (p.length - 1) (by omega)
    omega
theorem piv_le_rows {n c : Nat} {m : Mat} (hs : Shp n c m) : (redP m c).2.length <= n := (redP_ok hs).2.1.le
theorem nullM_hb {n c B k : Nat} {m : Mat} (h : HB B m) (hs : Shp n c m) (hk : (redP m c).2.length <= k) : HB (35 ^ k * B) (nullM m c) := by
  have hr := (redP_ok hs).2.1
  have hb := hb_redP_rank h hs hk
  have hp := hb.pos
  intro i j
  unfold ent
  by_cases hi : i < (nullM m c).length
  · rw [show (nullM m c).getD i [] = (nullM m c)[i] by simp [List.getD_eq_getElem?_getD, hi]]
    by_cases hj : j < c
    · obtain ⟨q, hqe⟩ : ∃ q, (nullM m c)[i] = (List.range c).map (nv (ent (redP m c).1) (redP m c).2 q) := by
        have hm : (nullM m c)[i] ∈ nullM m c := List.getElem_mem _
        unfold nullM nullL at hm
        obtain ⟨q, _, hqe⟩ := List.mem_map.1 hm
        exact ⟨q, hqe.symm⟩
      rw [hqe]
      have : (List.map (nv (ent (redP m c).1) (redP m c).2 q) (List.range c)).getD j 0 = nv (ent (redP m c).1) (redP m c).2 q j := by
        simp [List.getD_eq_getElem?_getD, hj]
      rw [this]
      unfold nv
      split
      · have : hq (1 : Rat) <= 1 := by decide +kernel
        omega
      · split
        · rw [hq_neg]; exact hb _ _
        · rw [hq_zero]; exact hp
    · have hl : (nullM m c)[i].length = c := nullM_row _ (List.getElem_mem _)
      have : (nullM m c)[i].getD j 0 = 0 := by rw [List.getD_eq_getElem?_getD, List.getElem?_eq_none (by omega)]; rfl
      rw [this, hq_zero]; exact hp
  · have : (nullM m c).getD i [] = [] := by rw [List.getD_eq_getElem?_getD, List.getElem?_eq_none (by omega)]; rfl
    rw [this]
    have : ([] : List Rat).getD j 0 = 0 := rfl
    rw [this, hq_zero]; exact hp
theorem HB.app {B : Nat} {a b : Mat} (ha : HB B a) (hb : HB B b) : HB B (a ++ b) := by
  intro i j
  unfold ent
  by_cases hi : i < a.length
  · rw [show (a ++ b).getD i [] = a.getD i [] by simp [List.getD_eq_getElem?_getD, List.getElem?_append_left hi]]; exact ha i j
  · rw [show (a ++ b).getD i [] = b.getD (i - a.length) [] by simp [List.getD_eq_getElem?_getD, List.getElem?_append_right (Nat.le_of_not_lt hi)]]; exact hb _ j
end Go.Lin
namespace Go.Lin
end Go.Lin
namespace Go.Lin
open Go.Rep
def sameB {α : Type} (m : List (List α)) (lo hi : Nat) : Bool := decide (∀ i (h : i < m.length), m[i].length = colsL m /\ lo <= m[i].length /\ m[i].length <= hi)
theorem sameB_true {α : Type} {m : List (List α)} {lo hi : Nat} : sameB m lo hi = true ↔ ∀ i (h : i < m.length), m[i].length = colsL m /\ lo <= m[i].length /\ m[i].length <= hi := by unfold sameB; simp
theorem sameB_false {α : Type} {m : List (List α)} {lo hi : Nat} (i : Nat) (h : i < m.length) (hn : ¬ (m[i].length = colsL m /\ lo <= m[i].length /\ m[i].length <= hi)) : false = sameB m lo hi := by
  symm
  cases hs : sameB m lo hi
  · rfl
  · exact absurd (sameB_true.1 hs i h) hn
end Go.Lin
namespace Go.Proofs.YtnnpfhoigmegcaaGreat
open Go.RowKit Go.Rep Go.Lim Go.Lin
set_option maxRecDepth 100000 in
theorem esame_any {R : Mem -> Value -> Rat -> Prop} (X : Nat -> Bool) (w : World) (u : Value) (m : List (List Rat)) (lo hi : Nat) (hu : SlV (SlV R 3) 1 (mk X w) u m) (hl : m.length <= 1099511627776) : Calls Tryz.prog 172 #[u, .int .i64 (lo : Int), .int .i64 (hi : Int)] w (fun e w' => w' = w /\ e = .returned (.bool (sameB m lo hi))) := by
  obtain ⟨ao, ca, rfl, hca, hsa⟩ := hu
  have hha := hsa.hd
  go_enter Tryz.func172, Tryz.ntmps172
  go_wp2_with fail
  go_loop [11] (fun c => ∃ (i : Nat), c = .int .i64 i /\ i <= m.length /\ Hid (∀ q, q < i -> ∀ hq : q < m.length, m[q].length = colsL m /\ lo <= m[q].length /\ m[q].length <= hi)) (fun c => m.length - (intOf c).toNat)
  case atStart => exact ⟨0, rfl, Nat.zero_le _, fun q hq => by omega⟩
  case round =>
    obtain ⟨i, rfl, hi', hok⟩ := hrel
    by_cases hlt : i < m.length
    · have h0 : 0 < m.length := by omega
      obtain ⟨a1, c1, hX1, hc1, hcl1, hq1⟩ := hsa.row i hlt
      obtain ⟨a2, c2, hX2, hc2, hcl2, hq2⟩ := hsa.row 0 h0
      have k00 := hc1.out noY w (ExtX.refl _) rfl
      have k10 := hc2.out noY w (ExtX.refl _) rfl
      have hcol := colsL_pos h0
      have hno := hid (sameB_false (lo := lo) (hi := hi) i hlt)
      rw [<- hcol] at k10
      obtain ⟨x, hx⟩ : ∃ x, m[i].length = x := ⟨_, rfl⟩
      obtain ⟨y, hy⟩ : ∃ y, colsL m = y := ⟨_, rfl⟩
      rw [hx] at k00 hno
      rw [hy] at k10 hno
      have hst : Hid (x = y /\ lo <= x /\ x <= hi -> ∀ hq : i < m.length, m[i].length = colsL m /\ lo <= m[i].length /\ m[i].length <= hi) := hid fun h hq => by rw [hx, hy]; exact h
      clear hx hy hcol hc1 hc2 hq1 hq2 hcl1 hcl2
      by_cases hxy : x = y
      · have d2 : ((x : Int) != (y : Int)) = false := bneF (by omega)
        by_cases hx0 : x < lo
        · have d0 : (x : Int) < (lo : Int) := by omega
          have hv := hid (hno.out (by omega))
          clear hxy
          go_wp2_with (with_reducible refine up_ix1 slRats (by omega) (by assumption) ?_)
          go_ret
          exact ⟨rfl, ret_bool hv.out⟩
        · have d0 : ¬ (x : Int) < (lo : Int) := by omega
          by_cases hx1 : hi < x
          · have d1 : (hi : Int) < (x : Int) := by omega
            have hv := hid (hno.out (by omega))
            clear hxy
            go_wp2_with (with_reducible refine up_ix1 slRats (by omega) (by assumption) ?_)
            go_ret
            exact ⟨rfl, ret_bool hv.out⟩
          · have d1 : ¬ (hi : Int) < (x : Int) := by omega
            have hst2 := hid (hst.out ⟨hxy, by omega, by omega⟩)
            clear hxy
            go_wp2_with (with_reducible refine up_ix1 slRats (by omega) (by assumption) ?_)
            go_round
            case rel => exact ⟨i + 1, by go_num, by omega, upto_succ hok.out hst2.out⟩
            case measure => simp [intOf]; omega
      · have d2 : ((x : Int) != (y : Int)) = true := bneT (by omega)
        have hv := hid (hno.out (by omega))
        clear hxy
        go_wp2_with (with_reducible refine up_ix1 slRats (by omega) (by assumption) ?_)
        go_ret
        exact ⟨rfl, ret_bool hv.out⟩
    · have hv : Hid (true = sameB m lo hi) := hid (by
        symm
        exact sameB_true.2 fun q hq => hok.out q (by omega) hq)
      go_wp2_with fail
      go_ret
      exact ⟨rfl, ret_bool hv.out⟩
end Go.Proofs.YtnnpfhoigmegcaaGreat
namespace Go.Lin
open Go.Lim Go.Rep
end Go.Lin
namespace Go.Lin
open Go.Lim Go.Rep
end Go.Lin
namespace Go.Proofs.YtnnpfhoigmegcaaGreat
open Go.RowKit Go.Rep Go.Lim Go.Lin
end Go.Proofs.YtnnpfhoigmegcaaGreat
namespace Go.Lin
open Go.Lim Go.Rep
def rowsL (z : Mat) (s : List Int) : Mat := s.map fun i => z.getD i.toNat []
theorem rowsL_len (z : Mat) (s : List Int) : (rowsL z s).length = s.length := by simp [rowsL]
theorem rowsL_get {z : Mat} {s : List Int} {j : Nat} (hj : j < (rowsL z s).length) (hs : j < s.length) {i : Nat} (hi : i < z.length) (h : s[j] = (i : Int)) : (rowsL z s)[j] = z[i] := by
  simp [rowsL, h, List.getD_eq_getElem?_getD, hi]
theorem rowsL_mem {z : Mat} {s : List Int} (hb : ∀ x ∈ s, 0 <= x /\ x < (z.length : Int)) : ∀ r ∈ rowsL z s, r ∈ z := fun r hr => by
  unfold rowsL at hr
  obtain ⟨x, hx, rfl⟩ := List.mem_map.1 hr
  have := hb x hx
  have hl : x.toNat < z.length := by omega
  rw [show z.getD x.toNat [] = z[x.toNat] by simp [List.getD_eq_getElem?_getD, hl]]
  exact List.getElem_mem _
end Go.Lin
namespace Go.Proofs.YtnnpfhoigmegcaaGreat
open Go.RowKit Go.Rep Go.Lim Go.Lin
def RowsOut (X : Nat -> Bool) (w : World) (m : Mat) (e : Ending) (w' : World) : Prop := Ext w w' /\ ∃ (ao : Option Addr) (cap : Nat), e = .returned (.slice ao m.length cap) /\ OL RV 1 X w.heap.size 26 w' ao cap m
set_option maxRecDepth 100000 in
theorem erows_any (X : Nat -> Bool) (w : World) (u : Value) (z : Mat) (ro : Option Addr) (s : List Int) (rc : Nat) (hX : HX X w) (hu : MV (mk X w) u z) (hs : Sl (IntIn .i64) 1 w.cell? ro s) (hb : ∀ x ∈ s, 0 <= x /\ x < (z.length : Int)) (hl : s.length <= 1000) : Calls Tryz.prog 92 #[u, .slice ro s.length rc] w (RowsOut X w (rowsL z s)) := by
  rw [<- mk_noY] at hs
  obtain ⟨ao, ca, rfl, hca, hsa⟩ := hu
  have hha := hsa.hd
  have hhs := hs.hd
  obtain ⟨M, hM⟩ : ∃ M, rowsL z s = M := ⟨_, rfl⟩
  have hMl : M.length = s.length := by rw [<- hM]; exact rowsL_len z s
  have hMi := hid (show ∀ j (h1 : j < M.length) (h2 : j < s.length) (i : Nat) (h3 : i < z.length), s[j] = (i : Int) -> M[j] = z[i] from fun j h1 h2 i h3 h => by subst hM; exact rowsL_get h1 h2 h3 h)
  rw [hM]
  have hb' := hid hb
  obtain ⟨n, hn⟩ : ∃ n, z.length = n := ⟨_, rfl⟩
  have hn' := hid hn
  obtain ⟨k, hk⟩ : ∃ k, s.length = k := ⟨_, rfl⟩
  have hk' := hid hk
  rw [hk] at hhs hl hMl |-
  rw [hn] at hha hca |-
  have hMl' := hid hMl
  have hMl1 : M.length <= k := by omega
  have hMl2 : k <= M.length := by omega
  clear hM hb hn hk hMl
  go_enter Tryz.func92, Tryz.ntmps92
  go_wp2_with fail
  go_loopw [5, 10] (fun o cc wr => ∃ (i : Nat) (oo : Option Addr) (co : Nat), cc = .int .i64 i /\ o = .slice oo i co /\ i <= k /\ OL RV 1 X w.heap.size 26 wr oo co (M.take i) /\ Ext w wr) (fun _ cc _ => k - (intOf cc).toNat)
  case atStart => exact ⟨0, none, 0, rfl, rfl, Nat.zero_le _, OL.nil _ _ _ _ _ _, ExtX.refl _⟩
  case round =>
    obtain ⟨i, oo, co, rfl, rfl, hi, hO, hE⟩ := hrel
    have hXr : HX X wr := hX.ext hE
    have hbase := hE.size
    by_cases hlt : i < k
    · have his : i < s.length := by rw [hk'.out]; exact hlt
      have hiM : i < M.length := by omega
      have htk := hid (take_snoc M i hiM)
      have hln := hid (len_take (l := M) (i := i) (by omega))
      have hc := (hs.mono (IntIn.mono _) (mk_ext hE)).int i his
      obtain ⟨h1, h2⟩ := hb'.out s[i] (List.getElem_mem _)
      obtain ⟨q, hq⟩ := Int.eq_ofNat_of_zero_le h1
      rw [hn'.out] at h2
      have hqn : q < n := by omega
      have hqz : q < z.length := by rw [hn'.out]; exact hqn
      have hMq := hMi.out i hiM his q hqz hq
      rw [hq] at hc
      have hsr : Sl RV 1 (mk (un X oo) wr) ao z := hsa.old RV.mono hE (fun j hj => hO.ob_lt hj)
      obtain ⟨a1, c1, hX1, hc1, hcl1, hq1⟩ := hsr.row q hqz
      have k00 := hc1.out noY wr (ExtX.refl _) rfl
      obtain ⟨r, hr⟩ : ∃ r, z[q] = r := ⟨_, rfl⟩
      rw [hr] at k00 hcl1 hq1 hMq
      rw [hMq] at htk
      have hRV : RV (mk (un X oo) wr) (.slice a1 r.length c1) r := ⟨a1, c1, rfl, hcl1, hq1⟩
      obtain ⟨d, hd⟩ : ∃ d, r.length = d := ⟨_, rfl⟩
      rw [hd] at k00 hRV
      clear hr hc1 hcl1 hq1 hMq hd h1 h2 hq
      go_wp2_with (first
        | (with_reducible refine up_ix1 slInt (by omega) (by assumption) ?_)
        | (with_reducible refine up_ix1 slRats (by omega) (by assumption) ?_)
        | (at_builtin; refine st_append1n (l := M.take i) slRats rfl RV.elem hbase hXr i hln.out rfl rfl hO (.slice a1 d c1) r rfl hRV (by omega) (by omega) ?_; intro oo2 co2 w7 hO7 hE7 hor))
      have hE8 := hE.own hO (Nat.le_refl _) hE7
      rw [htk.out] at hO7
      go_roundw
      case rel => exact ⟨i + 1, oo2, co2, by go_num, by go_num, by omega, hO7, hE8⟩
      case measure => simp [intOf]; omega
    · have hil : i = k := by omega
      subst hil
      rw [List.take_of_length_le (by omega)] at hO
      go_wp2_with fail
      go_ret
      exact ⟨hE, oo, co, by rw [hMl'.out]; rfl, hO⟩
end Go.Proofs.YtnnpfhoigmegcaaGreat
namespace Go.Lim
end Go.Lim
namespace Go.Lin
open Go.Lim Go.Rep
def Bd (c : Nat) (z : Mat) (cnt : Nat) (x : Vec) : Prop := ∀ l, IsDep c (onL c x (vecs z)) l -> cnt <= posN c x (vecs z) + l
theorem Bd.le {c cnt n : Nat} {z : Mat} {x : Vec} (h : Bd c z cnt x) (hn : n <= cnt) : Bd c z n x := fun l hl => Nat.le_trans hn (h l hl)
theorem Bd.congr {c cnt : Nat} {z : Mat} {x y : Vec} (h : Bd c z cnt x) (he : ∀ j, j < c -> x j = y j) : Bd c z cnt y := fun l hl => by
  obtain ⟨h1, h2, _⟩ := vec_congr he (vecs z)
  have := h l (by rw [h2]; exact hl)
  rwa [h1] at this
section
variable {n c : Nat} {z : Mat} (hs : Shp n c z)
include hs
end
theorem Sofar.le {c cnt : Nat} {z us : Mat} (h : Sofar c z cnt us) : cnt <= z.length + 1 := by
  rcases h with ⟨rfl, _⟩ | h
  · exact Nat.le_refl _
  · have : cnt = lexc c (vecs us) (vecs z) := h.cnt.symm
    rw [this]
    have := List.countP_le_length (p := fun v => lexOk c (vecs us) v) (l := vecs z)
    unfold lexc
    simp [vecs] at this |-
    omega
end Go.Lin
namespace Go.Proofs.YtnnpfhoigmegcaaGreat
open Go.RowKit Go.Rep Go.Lim Go.Lin
set_option maxRecDepth 100000 in
set_option maxHeartbeats 1600000 in
theorem edot_any (X : Nat -> Bool) (w : World) (u v : Value) (l m : List Rat) (hX : HX X w) (hu : RV (mk X w) u l) (hv : RV (mk X w) v m) (hn : l.length <= 1000000) (hml : m.length = l.length) (hb1 : ∀ k, k <= l.length -> hq (dotN l m k) <= 68719476736) (hb2 : ∀ k, k < l.length -> hq (l.getD k 0 * m.getD k 0) <= 68719476736) :
    Calls Tryz.prog 98 #[u, v] w (ROut X w QC (dotL l m)) := by
  obtain ⟨ao, ca, rfl, hca, hsa⟩ := hu
  obtain ⟨bo, cb, rfl, hcb, hsb⟩ := hv
  have hha := hsa.hd
  have hhb := hsb.hd
  obtain ⟨W, hW, hE, b0, b1, hz⟩ := boxes2 w #[.bool false, .slice none 0 0, .slice none 0 0] #[.bool false, .slice none 0 0, .slice none 0 0] 41 41
  have hXW : HX (hidB X w.heap.size 2) W := hX.boxes hz
  have h0 : QC (mk (hidB X w.heap.size 2) W) (.agg #[.bool false, .slice none 0 0, .slice none 0 0]) (dotN l m 0) := QC.zero _
  obtain ⟨n, hln⟩ : ∃ n, l.length = n := ⟨_, rfl⟩
  rw [hln] at hn hml hb1 hb2 hca hha |-
  rw [hml] at hcb hhb |-
  have hln' := hid hln
  have hml' := hid hml
  have hb1' := hid hb1
  have hb2' := hid hb2
  have hdot : Hid (dotN l m n = dotL l m) := hid (by unfold dotL; rw [hln])
  clear hln hml hb1 hb2
  go_enter Tryz.func98, Tryz.ntmps98
  go_wp2_with fail
  obtain ⟨b, hb⟩ : ∃ b, w.heap.size = b := ⟨_, rfl⟩
  have hle : Hid (∀ wr, Ext w wr -> Le (mk X w) (mk (hidB X b 2) wr)) := hid fun wr h => by rw [<- hb]; exact le_boxes h
  have hbw : w.heap.size <= b := by omega
  rw [hb] at b0 b1 hXW h0 |-
  clear hW
  go_loopw [9] (fun k wr => ∃ (i : Nat) (s : Bool) (a : Option Addr) (n' c' : Nat) (d : Option Addr) (kk e : Nat), k = .int .i64 i /\ i <= n /\ Bx wr b #[.bool false, .slice none 0 0, .slice none 0 0] 41 /\ Bx wr (b + 1) #[.bool s, .slice a n' c', .slice d kk e] 41 /\ QC (mk (hidB X b 2) wr) (.agg #[.bool s, .slice a n' c', .slice d kk e]) (dotN l m i) /\ HX (hidB X b 2) wr /\ Ext w wr) (fun k _ => n - (intOf k).toNat)
  case atStart => exact ⟨0, _, _, _, _, _, _, _, rfl, Nat.zero_le _, b0, b1, h0, hXW, hE⟩
  case round =>
    obtain ⟨i, s, a, n', c', d, kk, e, rfl, hi, b0, b1, hq, hXr, hEr⟩ := hrel
    by_cases hlt : i < n
    · have hil : i < l.length := by rw [hln'.out]; exact hlt
      have him : i < m.length := by rw [hml'.out]; exact hlt
      have hsr := hsa.mono QV.mono (hle.out wr hEr)
      have hsr2 := hsb.mono QV.mono (hle.out wr hEr)
      obtain ⟨g1, o1, s1, p1, n1, q1, d1, k1, e1, hg1, hX1, hc1, hq1⟩ := hsr.rat QV.shaped i hil
      obtain ⟨g2, o2, s2, p2, n2, q2, d2, k2, e2, hg2, hX2, hc2, hq2⟩ := hsr2.rat QV.shaped i him
      have gl : Hid (l.getD i 0 = l[i]) := hid (by simp [List.getD_eq_getElem?_getD, hil])
      have gm : Hid (m.getD i 0 = m[i]) := hid (by simp [List.getD_eq_getElem?_getD, him])
      have hst : Hid (dotN l m i + l[i] * m[i] = dotN l m (i + 1)) := hid (by rw [<- gl.out, <- gm.out]; rfl)
      have hbo := hid (hb1'.out i hi)
      have hbp := hid (hb2'.out i hlt)
      rw [gl.out, gm.out] at hbp
      obtain ⟨x, hx⟩ : ∃ x, l[i] = x := ⟨_, rfl⟩
      obtain ⟨y, hy⟩ : ∃ y, m[i] = y := ⟨_, rfl⟩
      rw [hx, hy] at hst hbp
      rw [hx] at hq1
      rw [hy] at hq2
      have i1 : ∀ W, (Instr.indexAt 26 (.slice ao n ca) (.int .i64 (i : Int))).run Tryz.prog W = .ok (.pointer (some ⟨g1, o1, none⟩)) W := by rw [<- hg1]; exact run_indexAt_adr slRat ao n ca .i64 i hha (by omega)
      have i2 : ∀ W, (Instr.indexAt 26 (.slice bo n cb) (.int .i64 (i : Int))).run Tryz.prog W = .ok (.pointer (some ⟨g2, o2, none⟩)) W := by rw [<- hg2]; exact run_indexAt_adr slRat bo n cb .i64 i hhb (by omega)
      obtain ⟨D, hD⟩ : ∃ D, dotN l m i = D := ⟨_, rfl⟩
      obtain ⟨D2, hD2⟩ : ∃ D2, dotN l m (i + 1) = D2 := ⟨_, rfl⟩
      rw [hD] at hq hst hbo
      rw [hD2] at hst
      have hD2' := hid hD2
      clear hx hy hg1 hg2 hD hD2
      have hE5d : Ext wr wr.drew := (ExtX.refl wr).drew
      have b05 := b0.ext0 hE5d
      have b15 := b1.ext0 hE5d
      have k00 := b15.cell 0 rfl
      have k01 := b15.cell 1 rfl
      have k02 := b15.cell 2 rfl
      obtain ⟨k10, k11, k12⟩ := hc1.out noY wr.drew hE5d rfl
      obtain ⟨k20, k21, k22⟩ := hc2.out noY wr.drew hE5d rfl
      have hXd := hXr.ext hE5d
      have hx5 : QV (mk (hidB X b 2) wr.drew) (.agg #[.bool s1, .slice p1 n1 q1, .slice d1 k1 e1]) x := mkx QV.mono hq1 hE5d
      have hy5 : QV (mk (hidB X b 2) wr.drew) (.agg #[.bool s2, .slice p2 n2 q2, .slice d2 k2 e2]) y := mkx QV.mono hq2 hE5d
      have hq5 : QV (mk (hidB X b 2) wr.drew) (.agg #[.bool s, .slice a n' c', .slice d kk e]) D := (mkx QC.mono hq hE5d).qv hbo.out
      clear hc1 hc2
      go_wp2_with fail
      go_region_with (first | (go_at_call 151; (with_reducible refine (qmul (hidB X b 2) wr.drew _ _ _ _ hXd hx5 hy5).mono ?_); rintro ee w6 ⟨t1, u6, rfl, hu6⟩; obtain ⟨s6, a6, n6, c6, d6, k6, e6, rfl⟩ := hu6.shape; have hX6 := hXd.ext t1; have hq6 := mkx QV.mono hq5 t1; have hm6 := hu6.qv hbp.out; have b16 := b15.ext0 t1; have m0 := b16.cell 0 rfl; have m1 := b16.cell 1 rfl; have m2 := b16.cell 2 rfl) | (go_at_call 182; (with_reducible refine (qadd (hidB X b 2) w6 _ _ _ _ hX6 hq6 hm6).mono ?_); rintro ee w7 ⟨t7, u7, rfl, hu7⟩; obtain ⟨s7, a7, n7, c7, d7, k7, e7, rfl⟩ := hu7.shape; rw [hst.out] at hu7; have b17 := b16.ext0 t7; have g0 := b17.cell 0 rfl; have g1' := b17.cell 1 rfl; have g2' := b17.cell 2 rfl; have f0 := b17.frozen 0; have f1 := b17.frozen 1; have f2 := b17.frozen 2))
      all_goals
        obtain ⟨z1, z2⟩ := b17.set3 (.bool s7) (.slice a7 n7 c7) (.slice d7 k7 e7)
        have h8 := QC.mono _ _ _ _ (le_store (lo := b) (nb := 2) z2 (by omega) (by omega)) hu7
        have b08 := ((b05.ext0 t1).ext0 t7).ext z2 (ob_other (by omega))
        have hE8 : Ext w _ := ExtX.box (hEr.trans (hE5d.trans (t1.trans t7))) z2 (by omega)
        have hX8 := (hX6.ext t7).ext z2
        rw [<- hD2'.out] at h8
        clear k00 k01 k02 k10 k11 k12 k20 k21 k22 m0 m1 m2 g0 g1' g2' f0 f1 f2 i1 i2
        go_wp2_with fail
        go_roundw
        case rel => exact ⟨i + 1, _, _, _, _, _, _, _, by go_num, by omega, b08, z1, h8, hX8, hE8⟩
        case measure => simp [intOf]; omega
    · have hin : i = n := by omega
      subst hin
      rw [hdot.out] at hq
      have k00 := b1.cell 0 rfl
      have k01 := b1.cell 1 rfl
      have k02 := b1.cell 2 rfl
      go_wp2_with ((with_reducible show wpList _ _ _ (⟨_, .store _ _ _, _, _, _, _⟩ :: _) _ _); refine st_storeBox stRat rfl rfl b0 rfl rfl (one3 _ _ _ _ _ _ _) ?_; intro w7 r1 r2)
      have h7 := QC.mono _ _ _ _ le_unbox (QC.mono _ _ _ _ (le_store r2 (by omega) (by omega)) hq)
      exact bodyPost_ret (results_box rfl rfl stRat r1 rfl) rfl ⟨ExtX.box hEr r2 (by omega), _, rfl, h7⟩
end Go.Proofs.YtnnpfhoigmegcaaGreat
namespace Go.Rep
open Go.RowKit Go.Lim
abbrev hidF (X : Nat -> Bool) (fb : Nat) : Nat -> Bool := un X (some ⟨fb, 0, none⟩)
abbrev hidZ (X : Nat -> Bool) (fb : Nat) (po oo : Option Addr) : Nat -> Bool := un (un (hidF X fb) po) oo
structure RS (X : Nat -> Bool) (w0 : World) (b fb base : Nat) (T1 T2 T3 : TypeId) (w : World) (oo : Option Addr) (co : Nat) (po : Option Addr) (pc : Nat) (M : List (List Rat)) (p : List Nat) (f : Rat) : Prop where
  rows : OL RC 1 (un (hidF X fb) po) base T1 w oo co M
  piv : OL (NatIn .i64) 1 (un (hidF X fb) oo) base T3 w po pc p
  fac : ∃ s a n c d k e, Bx w fb #[.bool s, .slice a n c, .slice d k e] T2 /\ QC (mk (hidZ X fb po oo) w) (.agg #[.bool s, .slice a n c, .slice d k e]) f
  hx : HX X w
  res : Bx w b #[.bool false, .slice none 0 0, .slice none 0 0] T2
  rb : X b = true
  fb0 : fb ≠ b
  ext : Ext w0 w
  low : w0.heap.size <= base
  lowf : w0.heap.size <= fb
section
variable {X : Nat -> Bool} {w0 w w' : World} {b fb base : Nat} {T1 T2 T3 : TypeId} {oo po : Option Addr} {co pc : Nat} {M M' : List (List Rat)} {p : List Nat} {f f' : Rat}
theorem RS.oF (h : RS X w0 b fb base T1 T2 T3 w oo co po pc M p f) : ob oo fb = false := by
  cases hb : ob oo fb
  · rfl
  · have := h.rows.1 fb hb; rw [un_left (un_right (ob_self fb))] at this; simp at this
theorem RS.pF (h : RS X w0 b fb base T1 T2 T3 w oo co po pc M p f) : ob po fb = false := by
  cases hb : ob po fb
  · rfl
  · have := h.piv.1 fb hb; rw [un_left (un_right (ob_self fb))] at this; simp at this
theorem RS.oB (h : RS X w0 b fb base T1 T2 T3 w oo co po pc M p f) : ob oo b = false := by
  cases hb : ob oo b
  · rfl
  · have := h.rows.1 b hb; rw [un_left (un_left h.rb)] at this; simp at this
theorem RS.pB (h : RS X w0 b fb base T1 T2 T3 w oo co po pc M p f) : ob po b = false := by
  cases hb : ob po b
  · rfl
  · have := h.piv.1 b hb; rw [un_left (un_left h.rb)] at this; simp at this
theorem RS.po_oo (h : RS X w0 b fb base T1 T2 T3 w oo co po pc M p f) (k : Nat) (hk : ob po k = true) : ob oo k = false := (un_false (h.piv.1 k hk)).2
theorem RS.flt (h : RS X w0 b fb base T1 T2 T3 w oo co po pc M p f) : fb < w.heap.size := by
  obtain ⟨_, _, _, _, _, _, _, h1, _⟩ := h.fac; exact h1.lt
theorem RS.hz (h : RS X w0 b fb base T1 T2 T3 w oo co po pc M p f) : HX (hidZ X fb po oo) w := fun k hk => by
  by_cases h1 : ob oo k = true
  · exact (h.rows.block h1).2
  · by_cases h2 : ob po k = true
    · exact (h.piv.block h2).2
    · by_cases h3 : X k = true
      · exact h.hx k h3
      · have h1' : ob oo k = false := by simpa using h1
        have h2' : ob po k = false := by simpa using h2
        have h3' : X k = false := by simpa using h3
        have h4 : ob (some ⟨fb, 0, none⟩) k = true := by simpa [hidZ, hidF, un, h1', h2', h3'] using hk
        have : fb = k := by simpa [ob] using h4
        rw [<- this]; exact h.flt
theorem RS.row (h : RS X w0 b fb base T1 T2 T3 w oo co po pc M p f) (i : Nat) (hi : i < M.length) : ∃ a c, w.cell? (adr oo i) = some (.slice a M[i].length c) /\ w.frozen? (adr oo i) = false /\ M[i].length <= c /\ Sl QC 3 (_root_.Go.Rep.mk (hidZ X fb po oo) w) a M[i] := by
  obtain ⟨u, h1, h2, a, c, rfl, h4, h5⟩ := h.rows.cell SlV.one i hi
  exact ⟨a, c, h1, h2, h4, h5⟩
theorem RS.ext0 (h : RS X w0 b fb base T1 T2 T3 w oo co po pc M p f) (hE : Ext w w') : RS X w0 b fb base T1 T2 T3 w' oo co po pc M p f := by
  obtain ⟨s, a, n, c, d, k, e, h1, h2⟩ := h.fac
  exact ⟨h.rows.ext0 RC.elem hE, h.piv.ext0 (NatIn.elem _) hE, ⟨s, a, n, c, d, k, e, h1.ext0 hE, mkx QC.mono h2 hE⟩, h.hx.ext hE, h.res.ext0 hE, h.rb, h.fb0, h.ext.trans hE, h.low, h.lowf⟩
theorem RS.setRows (h : RS X w0 b fb base T1 T2 T3 w oo co po pc M p f) (hE : ExtX (ob oo) w w') (hO : OL RC 1 (un (hidF X fb) po) base T1 w' oo co M') : RS X w0 b fb base T1 T2 T3 w' oo co po pc M' p f := by
  obtain ⟨s, a, n, c, d, k, e, h1, h2⟩ := h.fac
  exact ⟨hO, h.piv.frame (NatIn.pure _) hE (fun k hk => h.po_oo k hk) h.piv.1, ⟨s, a, n, c, d, k, e, h1.ext hE h.oF, QC.mono _ _ _ _ (mk_mono hE fun k hk => un_right hk) h2⟩, h.hx.ext hE, h.res.ext hE h.oB, h.rb, h.fb0, h.ext.own h.rows h.low hE, h.low, h.lowf⟩
theorem RS.setFac (h : RS X w0 b fb base T1 T2 T3 w oo co po pc M p f) (hE : ExtX (ob (some ⟨fb, 0, none⟩)) w w') {s : Bool} {a : Option Addr} {n c : Nat} {d : Option Addr} {k e : Nat} (hB : Bx w' fb #[.bool s, .slice a n c, .slice d k e] T2) (hq : QC (_root_.Go.Rep.mk (hidZ X fb po oo) w') (.agg #[.bool s, .slice a n c, .slice d k e]) f') : RS X w0 b fb base T1 T2 T3 w' oo co po pc M p f' := by
  have hf : ∀ k, ob (some ⟨fb, 0, none⟩) k = true -> k = fb := fun k hk => by
    have : fb = k := by simpa [ob] using hk
    exact this.symm
  refine ⟨h.rows.ext RC.elem hE (fun k _ hk => un_left (un_right hk)) (fun _ _ h => h), h.piv.frame (NatIn.pure _) hE (fun k hk => ?_) h.piv.1, ⟨s, a, n, c, d, k, e, hB, hq⟩, h.hx.ext hE, h.res.ext hE (ob_other (Ne.symm h.fb0)), h.rb, h.fb0, h.ext.then_ hE fun k hk _ => ?_, h.low, h.lowf⟩
  · cases hb : ob (some ⟨fb, 0, none⟩) k
    · rfl
    · have := hf k hb; subst this; rw [h.pF] at hk; simp at hk
  · cases hb : ob (some ⟨fb, 0, none⟩) k
    · rfl
    · have := hf k hb; have := h.lowf; omega
theorem RS.push (h : RS X w0 b fb base T1 T2 T3 w oo co po pc M p f) {po2 : Option Addr} {pc2 j : Nat} (hE : ExtX (ob po) w w') (hP : OL (NatIn .i64) 1 (un (hidF X fb) oo) base T3 w' po2 pc2 (p ++ [j])) (hor : po2 = po \/ ∃ g, po2 = some ⟨g, 0, none⟩ /\ w.heap.size <= g) : RS X w0 b fb base T1 T2 T3 w' oo co po2 pc2 M (p ++ [j]) f := by
  obtain ⟨s, a, n, c, d, k, e, h1, h2⟩ := h.fac
  have hold : ∀ k, k < w.heap.size -> ob po2 k = true -> ob po k = true := fun k hk h9 => by
    rcases hor with rfl | ⟨g, rfl, hg⟩
    · exact h9
    · have : g = k := by simpa [ob] using h9
      omega
  have hF : ∀ k, k < w.heap.size -> un (hidF X fb) po2 k = true -> un (hidF X fb) po k = true := fun k hk hz => by
    by_cases hx : hidF X fb k = true
    · exact un_left hx
    · exact un_right (hold k hk (by simpa [un, hx] using hz))
  refine ⟨h.rows.ext RC.elem hE (fun k _ hk => un_right hk) hF, hP, ⟨s, a, n, c, d, k, e, h1.ext hE h.pF, QC.mono _ _ _ _ (mk_over hE (fun k _ hk => un_left (un_right hk)) fun k hk hz => ?_) h2⟩, h.hx.ext hE, h.res.ext hE h.pB, h.rb, h.fb0, h.ext.own h.piv h.low hE, h.low, h.lowf⟩
  by_cases ho : ob oo k = true
  · exact un_right ho
  · exact un_left (hF k hk (by simpa [un, ho] using hz))
end
end Go.Rep
namespace Go.Lin
open Go.Lim
def TameR (m : Mat) (c : Nat) : Prop := ∃ B, 6 * B <= 68719476736 /\ ∀ j, j <= c -> HB B (rN m j).1 /\ hq (rN m j).2.2 <= B
theorem rN_succ (m : Mat) (k : Nat) : rN m (k + 1) = rStep (rN m k) k := rfl
theorem getD_row' {m : Mat} {i : Nat} (h : i < m.length) : m.getD i [] = m[i] := by simp [List.getD_eq_getElem?_getD, h]
theorem ent_row {m : Mat} {i : Nat} (h : i < m.length) (j : Nat) : ent m i j = (m[i]).getD j 0 := by unfold ent; rw [getD_row' h]
theorem nz_none {m : Mat} {n t col : Nat} (hl : m.length = n) (h : ∀ q, t <= q -> q < n -> ent m q col = 0) : nzAt m t col = none := by
  unfold nzAt
  rw [List.findIdx?_eq_none_iff]
  intro r hr
  obtain ⟨i, hi, rfl⟩ := List.getElem_of_mem hr
  rw [List.length_drop] at hi
  have := h (t + i) (by omega) (by omega)
  rw [ent_row (by omega)] at this
  simpa using this
theorem nz_some {m : Mat} {n t col a : Nat} (hl : m.length = n) (h : ∀ q, t <= q -> q < t + a -> ent m q col = 0) (ha : t + a < n) (hne : ent m (t + a) col ≠ 0) : nzAt m t col = some a := by
  unfold nzAt
  rw [List.findIdx?_eq_some_iff_getElem]
  refine ⟨by rw [List.length_drop]; omega, ?_, fun j hj => ?_⟩
  · rw [List.getElem_drop, <- ent_row (by omega)]; simpa using hne
  · rw [List.getElem_drop, <- ent_row (by omega)]; simpa using h (t + j) (by omega) (by omega)
theorem out_zero (m : Mat) (t col : Nat) : out m t col 0 = m := by
  unfold out rows
  refine List.ext_getElem (by simp) fun q h1 h2 => ?_
  rw [List.getElem_mapIdx, if_neg (by omega)]
theorem out_len (m : Mat) (t col s : Nat) : (out m t col s).length = m.length := by simp [out, rows]
theorem out_get {m : Mat} {t col s i : Nat} (h : i < (out m t col s).length) (h2 : i < m.length) : (out m t col s)[i] = if i ≠ t /\ i < s then List.zipWith (· + ·) m[i] ((m.getD t []).map (· * - m[i].getD col 0)) else m[i] := by
  show (m.mapIdx _)[i]'(by simpa using h2) = _
  rw [List.getElem_mapIdx]
theorem out_set {m : Mat} {t col s : Nat} (h : s < m.length) (hst : s ≠ t) : (out m t col s).set s (List.zipWith (· + ·) m[s] ((m.getD t []).map (· * - m[s].getD col 0))) = out m t col (s + 1) := by
  refine List.ext_getElem (by simp [out_len]) fun q h1 h2 => ?_
  have hq : q < m.length := by rw [out_len] at h2; exact h2
  rw [List.getElem_set, out_get h2 hq]
  split
  · subst_vars; rw [if_pos ⟨hst, by omega⟩]
  · rw [out_get (by simpa [out_len] using hq) hq]
    by_cases a : q ≠ t /\ q < s
    · rw [if_pos a, if_pos ⟨a.1, by omega⟩]
    · rw [if_neg a, if_neg (by omega)]
theorem out_skip {m : Mat} {t col : Nat} : out m t col t = out m t col (t + 1) := by
  refine List.ext_getElem (by simp [out_len]) fun q h1 h2 => ?_
  have hq : q < m.length := by rw [out_len] at h2; exact h2
  rw [out_get h1 hq, out_get h2 hq]
  by_cases a : q ≠ t /\ q < t
  · rw [if_pos a, if_pos ⟨a.1, by omega⟩]
  · rw [if_neg a, if_neg (by omega)]
theorem swapL_set {m : Mat} {i k : Nat} (hi : i < m.length) (hk : k < m.length) : (m.set i m[k]).set k m[i] = swapL m i k := by
  unfold swapL; rw [getD_row' hi, getD_row' hk]
theorem rN_piv {n c : Nat} {m M : Mat} {P : List Nat} {f : Rat} {j pl a : Nat} (hs : Shp n c m) (hst : rN m j = (M, P, f)) (hpl : P.length = pl) (hz : ∀ q, pl <= q -> q < pl + a -> ent M q j = 0) (ha : pl + a < n) (hne : ent M (pl + a) j ≠ 0) :
    rN m (j + 1) = (out (pv (swapL M (pl + a) pl) pl j) pl j n, P ++ [j], (if a = 0 then f else - f) * ent (swapL M (pl + a) pl) pl j) := by
  have hM : Shp n c M := by have := (rN_ok hs j).shp; rw [hst] at this; exact this
  subst hpl
  rw [rN_succ, hst]
  unfold rStep
  dsimp only
  rw [nz_some hM.1 hz ha hne]
  dsimp only
  rw [hM.1]
theorem rN_none {n c : Nat} {m M : Mat} {P : List Nat} {f : Rat} {j pl : Nat} (hs : Shp n c m) (hst : rN m j = (M, P, f)) (hpl : P.length = pl) (hz : ∀ q, pl <= q -> q < n -> ent M q j = 0) : rN m (j + 1) = (M, P, f) := by
  have hM : Shp n c M := by have := (rN_ok hs j).shp; rw [hst] at this; exact this
  subst hpl
  rw [rN_succ, hst]
  unfold rStep
  dsimp only
  rw [nz_none hM.1 hz]
end Go.Lin
namespace Go.Rep
open Go.RowKit
theorem ob_hid {X : Nat -> Bool} {b k : Nat} (h : X b = true) (hk : ob (some ⟨b, 0, none⟩) k = true) : X k = true := by
  have : b = k := by simpa [ob] using hk
  subst this; exact h
section
variable {P : Program} {w : World}
theorem results_ttb {fn : Func} {tmps : Array Value} {c d e : Tmp} {t : TypeId} {n b : Nat} {cs : Array Value} {T : TypeId} (h : fn.results = #[.tmp d, .tmp e, .cell c t]) (hp : tmps.getD c undef = .pointer (some ⟨b, 0, none⟩)) (hT : StructT P t n) (hb : Bx w b cs T) (hcs : cs.size = n) :
    (results fn tmps).run P w = .ok (.tuple #[tmps.getD d undef, tmps.getD e undef, .agg cs]) w := by
  have hl := run_loadBox (P := P) hT hb hcs
  rw [Array.getD_eq_getD_getElem?] at hp
  simp [results, h, hp, asAddr, hl]
end
end Go.Rep
namespace Go.Lin
open Go.Lim Go.Rep
theorem inc_len {p : List Nat} {c : Nat} (h1 : ∀ i (hi : i < p.length), p[i] < c) (h2 : ∀ i k (hik : i < k) (hk : k < p.length), p[i] < p[k]) : p.length <= c := by
  have hpw : p.Pairwise (· < ·) := List.pairwise_iff_getElem.2 fun i j hi hj hij => h2 i j hij hj
  have hnd : p.Nodup := hpw.imp fun h => Nat.ne_of_lt h
  have h3 : p.length <= (List.range c).length := hnd.length_le_of_subset fun j hj => by
    obtain ⟨k, hk, rfl⟩ := List.getElem_of_mem hj
    exact List.mem_range.2 (h1 k hk)
  rwa [List.length_range] at h3
theorem tame_cols4 {n c B : Nat} {m : Mat} (hs : Shp n c m) (h : HB B m) (hc : c <= 4) (hBB : B <= 6541) : Tame m c /\ TameR m c := by
  have hle : ∀ j, j <= c -> (eN m j).2.1.length <= 4 := fun j hj => Nat.le_trans (inc_len (eN_ok hs j).ech.lt (eN_ok hs j).ech.inc) (by omega)
  have hle2 : ∀ j, j <= c -> (rN m j).2.1.length <= 4 := fun j hj => Nat.le_trans (inc_len (rN_ok hs j).ref.lt (rN_ok hs j).ref.inc) (by omega)
  have p5 : ∀ k, k <= 4 -> 5 ^ k <= 625 := fun k hk => Nat.le_trans (pow_le 5 (by omega) hk) (by decide)
  have p7 : ∀ k, k <= 4 -> 7 ^ k <= 2401 := fun k hk => Nat.le_trans (pow_le 7 (by omega) hk) (by decide)
  have p6 : ∀ k, k <= 4 -> 6 ^ k <= 1296 := fun k hk => Nat.le_trans (pow_le 6 (by omega) hk) (by decide)
  refine ⟨⟨1500625 * B, by omega, fun j hj => (h.eN hs j).mono (Nat.mul_le_mul_right _ (Nat.le_trans (p5 _ (hle j hj)) (by decide))), fun t ht => (((h.eN hs c).dN (eN_ok hs c).shp (eN_ok hs c).ech t ht)).mono ?_⟩, ⟨1296 * B, by omega, fun j hj => ?_⟩⟩
  · rw [<- Nat.mul_assoc]
    refine Nat.mul_le_mul_right _ ?_
    exact Nat.mul_le_mul (p7 t (Nat.le_trans ht (hle c (Nat.le_refl _)))) (p5 _ (hle c (Nat.le_refl _)))
  · obtain ⟨h1, h2⟩ := h.rN hs j
    have hp := Nat.mul_le_mul_right B (p6 _ (hle2 j hj))
    exact ⟨h1.mono hp, Nat.le_trans h2 hp⟩
theorem sm_hq {n B : Nat} {f : Nat -> Rat} (h : ∀ i, i < n -> hq (f i) <= B) : hq (sm n f) <= 1 + n * (B + 1) := by
  induction n with
  | zero => unfold sm; rw [hq_zero]; omega
  | succ n ih =>
    unfold sm
    have h1 := ih fun i hi => h i (by omega)
    have h2 := hq_add (sm n f) (f n)
    have h3 := h n (by omega)
    have e : (n + 1) * (B + 1) = n * (B + 1) + (B + 1) := Nat.succ_mul _ _
    omega
end Go.Lin
namespace Go.Lin
open Go.Lim Go.Rep
theorem rows_hb {B : Nat} {z : Mat} {s : List Int} (hB : HB B z) (hb : ∀ x ∈ s, 0 <= x /\ x < (z.length : Int)) : HB B (rowsL z s) := fun i j => by
  unfold ent
  by_cases hi : i < (rowsL z s).length
  · have hm := rowsL_mem hb _ (List.getElem_mem hi)
    obtain ⟨q, hq, he⟩ := List.getElem_of_mem hm
    rw [show (rowsL z s).getD i [] = (rowsL z s)[i] by simp [List.getD_eq_getElem?_getD, hi], <- he]
    have := hB q j
    unfold ent at this
    rwa [show z.getD q [] = z[q] by simp [List.getD_eq_getElem?_getD, hq]] at this
  · rw [show (rowsL z s).getD i [] = [] by rw [List.getD_eq_getElem?_getD, List.getElem?_eq_none (by omega)]; rfl]
    have : ([] : List Rat).getD j 0 = 0 := rfl
    rw [this, hq_zero]; exact hB.pos
theorem ray_shp {n c : Nat} {z : Mat} (hs : Shp n c z) {s : List Int} (hb : ∀ x ∈ s, 0 <= x /\ x < (z.length : Int)) : Shp s.length c (rowsL z s) := ⟨rowsL_len z s, fun r hr => hs.2 r (rowsL_mem hb r hr)⟩
theorem ray_tame {n c B : Nat} {x : Mat} {s : List Int} (hs : Shp n c x) (hB : HB B x) (hBB : B <= 1000) (hc4 : c <= 4) (hb : ∀ i ∈ s, 0 <= i /\ i < (x.length : Int)) (hl : s.length + 1 = c) : Tame (rowsL x s) c /\ HB (42875 * B) (nullM (rowsL x s) c) := by
  have hM := ray_shp hs hb
  have hp := piv_le_rows hM
  have hp3 : (redP (rowsL x s) c).2.length <= 3 := by omega
  refine ⟨tame_rank hM (rows_hb hB hb) hp3 ?_, (nullM_hb (rows_hb hB hb) hM hp3).mono (by simp)⟩
  have e : 7 * (35 ^ 3 * 1000) = 300125000 := by decide
  have := Nat.mul_le_mul_left (35 ^ 3) hBB
  omega
theorem rank_tame {n c B : Nat} {x : Mat} (hs : Shp n c x) (hB : HB B x) (hBB : B <= 1000) (hc4 : c <= 4) : Tame x c := by
  have hp := piv_le_cols hs
  refine tame_rank hs hB (k := 4) (by omega) ?_
  have e : 7 * (35 ^ 4 * 1000) = 10504375000 := by decide
  have := Nat.mul_le_mul_left (35 ^ 4) hBB
  omega
theorem rays_mem {n c B : Nat} {x : Mat} (hs : Shp n c x) (hn : x.length = n) (hc : 1 <= c) (hc4 : c <= 4) (hB : HB B x) (hBB : B <= 1000) {d : List Rat} (h : d ∈ raysL x c) : d.length = c /\ BR (42875 * B) d := by
  unfold raysL at h
  have h1 := hB.pos
  split at h
  · rename_i hc1
    subst hc1
    obtain rfl : d = [1] := by simpa using h
    refine ⟨rfl, fun q hq' => ?_⟩
    obtain rfl := List.mem_singleton.1 hq'
    have : hq (1 : Rat) <= 1 := by decide +kernel
    omega
  · obtain ⟨s, hsm, hr⟩ := List.mem_filterMap.1 h
    obtain ⟨g1, g2, _⟩ := combs_mem _ _ _ _ hsm
    have hb : ∀ i ∈ s, 0 <= i /\ i < (x.length : Int) := fun i hi => by have := g2 i hi; omega
    unfold rayO at hr
    split at hr
    · rename_i d' he
      obtain rfl : d' = d := by simpa using hr
      have hm : d' ∈ nullM (rowsL x s) c := by rw [show rowsL x s = s.map fun i => x.getD i.toNat [] from rfl, he]; simp
      refine ⟨nullM_row _ hm, ?_⟩
      exact hb_bm (ray_tame hs hB hBB hc4 hb (by omega)).2 _ hm
    · cases hr
theorem dot_row {c : Nat} {d r : List Rat} (h : r.length = c) : dotL r d = dot c (vec d) (vec r) := by
  rw [dot_comm]; unfold dotL dot; rw [dotN_sm, h]; rfl
theorem dot_bd {c B C : Nat} {d r : List Rat} (hr : r.length = c) (hc : c <= 4) (h1 : BR B r) (h2 : BR C d) (hC : C <= 50000000) (hB : B <= 1000) : (∀ k, k <= r.length -> hq (dotN r d k) <= 200004013) /\ (∀ k, k < r.length -> hq (r.getD k 0 * d.getD k 0) <= 50001002) := by
  have g : ∀ {l : List Rat} {B}, BR B l -> ∀ q, hq (l.getD q 0) <= B + 1 := fun {l} {B} hl q => by
    rw [List.getD_eq_getElem?_getD]
    by_cases h : q < l.length
    · rw [List.getElem?_eq_getElem h, Option.getD_some]; exact Nat.le_succ_of_le (hl _ (List.getElem_mem _))
    · rw [List.getElem?_eq_none (by omega), Option.getD_none, hq_zero]; omega
  have hp : ∀ k, hq (r.getD k 0 * d.getD k 0) <= B + 1 + (C + 1) := fun k => by
    have := hq_mul (r.getD k 0) (d.getD k 0)
    have := g h1 k
    have := g h2 k
    omega
  refine ⟨fun k hk => ?_, fun k _ => by have := hp k; omega⟩
  rw [dotN_sm]
  have := sm_hq (n := k) (B := 50001002) (f := fun q => r.getD q 0 * d.getD q 0) fun i _ => by have := hp i; omega
  have h4 : k * (50001002 + 1) <= 4 * 50001003 := Nat.mul_le_mul (by omega) (by omega)
  omega
end Go.Lin
namespace Go
section
variable {P : Program} {ops : Array Oper} {Q : Exit -> Act -> World -> Prop} {md : Region.Mode} {S : World -> Prop} {n : Nat}
def wpAnyK (P : Program) (md : Region.Mode) (ops : Array Oper) (Q : Exit -> Act -> World -> Prop) (S : World -> Prop) (n : Nat) : Nat -> Array Bool -> Act -> World -> Prop
  | 0, listed, a, w => Region.ready md ops listed = [] /\ Q .normal a w
  | fuel + 1, listed, a, w =>
    (Region.ready md ops listed = [] -> Q .normal a w) /\
    ∀ i ∈ Region.ready md ops listed, wpOp P ops Q i (fun a' w' => (i < n -> S w') /\ wpAnyK P md ops Q S n fuel (listed.setIfInBounds i true) a' w') a w
theorem wpAny_of_K : ∀ (fuel : Nat) (listed : Array Bool) (a : Act) (w : World), wpAnyK P md ops Q S n fuel listed a w -> wpAny P md ops Q fuel listed a w
  | 0, _, _, _, h => h
  | fuel + 1, _, _, _, h => ⟨h.1, fun i hi => wpOp_mono (fun a' w' h' => wpAny_of_K fuel _ a' w' h'.2) (h.2 i hi)⟩
theorem wpAnyK_first {i : Nat} {oi : Oper} {v : Value} (hs : Region.sinkB md ops n = true) (hc : Region.chainB md ops n = true) (hn : n < ops.size) (hin : i < n) (hi : ops[i]? = some oi) (hsel : ∀ (j : Nat) (o : Oper) cs b, ops[j]? = some o -> o.op ≠ .select cs b)
    (hQ : ∀ c a w, Q (.panic c) (a.put oi.dst v) w -> Q (.panic c) a w) :
    ∀ (fuel : Nat) (listed : Array Bool) (a : Act) (w : World), HeadInv md ops n listed ->
      (∀ j oj, ops[j]? = some oj -> j ≠ i -> listed.getD j true = false -> (∀ e ∈ oj.after, Region.binds md e = true -> e.on ≠ i) -> oi.apart ops oj = true) ->
      i ∈ Region.ready md ops listed -> YieldsIf P ops S oi v a -> S w ->
      wpAnyK P md ops Q S n fuel (listed.setIfInBounds i true) (a.put oi.dst v) w -> wpAnyK P md ops Q S n (fuel + 1) listed a w := by
  intro fuel
  induction fuel with
  | zero =>
    intro listed a w _ _ hr hy hS H
    refine ⟨fun h => (by rw [h] at hr; cases hr), fun j hj => ?_⟩
    by_cases hji : j = i
    · subst hji; exact hy.wpOp hi hS ⟨fun _ => hS, H⟩
    · have := ready_mono hj hji
      rw [H.1] at this
      cases this
  | succ fuel ih =>
    intro listed a w inv hfree hr hy hS H
    refine ⟨fun h => (by rw [h] at hr; cases hr), fun j hj => ?_⟩
    by_cases hji : j = i
    · subst hji; exact hy.wpOp hi hS ⟨fun _ => hS, H⟩
    · have hjn : j < n := by
        rcases Nat.lt_or_ge j n with h | h
        · exact h
        · exact absurd hj (tail_waits hs hc hn inv (n - i) i rfl hin (mem_ready.1 hr).1 j h)
      have h1 := H.2 j (ready_mono hj hji)
      obtain ⟨hjun, oj, hoj, hall⟩ := mem_ready.1 hj
      have hnot : ∀ e ∈ oj.after, Region.binds md e = true -> e.on ≠ i := fun e he hb heq => by
        have h1 := hall e he hb
        have h0 := (mem_ready.1 hr).1
        rw [heq] at h1
        rcases Nat.lt_or_ge i listed.size with h' | h'
        · simp [h'] at h0 h1; rw [h0] at h1; cases h1
        · simp [Array.getElem?_eq_none h'] at h1
      have h2 := wpOp_putIf hoj (hfree j oj hoj hji hjun hnot) (fun cs b => hsel i oi cs b hi) (fun cs b => hsel j oj cs b hoj) hQ hy h1
      have hfree' : ∀ k ok, ops[k]? = some ok -> k ≠ i -> (listed.setIfInBounds j true).getD k true = false ->
          (∀ e ∈ ok.after, Region.binds md e = true -> e.on ≠ i) -> oi.apart ops ok = true := fun k ok hk hki hun hno => by
        refine hfree k ok hk hki ?_ hno
        by_cases hjk : j = k
        · subst hjk; exact hjun
        · rw [getD_set_ne true hjk] at hun; exact hun
      refine wpOp_mono (fun a' w' h3 => ⟨h3.2.1, ih (listed.setIfInBounds j true) a' w' (inv.set hj hjn) hfree' (ready_mono hr (Ne.symm hji)) h3.1 (h3.2.1 hjn) ?_⟩) h2
      rw [Array.setIfInBounds_comm _ _ hji]
      exact h3.2.2
def headB (md : Region.Mode) (ops : Array Oper) (n : Nat) (listed : Array Bool) : Bool :=
  decide (listed.size = ops.size) &&
  ((List.range ops.size).all fun j => !listed.getD j false || (match ops[j]? with | some o => o.after.all fun e => !Region.binds md e || listed.getD e.on false | none => true)) &&
  ((List.range ops.size).all fun t => decide (t < n) || !listed.getD t true)
theorem headB_inv {listed : Array Bool} (h : headB md ops n listed = true) : HeadInv md ops n listed := by
  unfold headB at h
  simp only [Bool.and_eq_true, decide_eq_true_eq] at h
  obtain ⟨⟨h1, h2⟩, h3⟩ := h
  refine ⟨h1, fun j oj hj hl e he hb => ?_, fun t ht ht' => ?_⟩
  · have hlt : j < ops.size := (Array.getElem?_eq_some_iff.1 hj).1
    have h4 := List.all_eq_true.1 h2 j (List.mem_range.2 hlt)
    rw [hl, hj] at h4
    simp only [Bool.not_true, Bool.false_or] at h4
    have h5 := Array.all_eq_true_iff_forall_mem.1 h4 e he
    rw [hb] at h5
    simpa using h5
  · have h4 := List.all_eq_true.1 h3 t (List.mem_range.2 ht')
    simp only [Bool.or_eq_true, decide_eq_true_eq, Bool.not_eq_true'] at h4
    rcases h4 with h4 | h4
    · omega
    · exact h4
def takeB (md : Region.Mode) (ops : Array Oper) (n i : Nat) (listed : Array Bool) : Bool :=
  decide (i < n) && headB md ops n listed && Region.free md ops listed i && (Region.ready md ops listed).contains i
def onceB (md : Region.Mode) (ops : Array Oper) (n : Nat) : Bool := Region.sinkB md ops n && Region.chainB md ops n && decide (n < ops.size) && Region.noSelect ops
theorem wpAnyK_take {i : Nat} {oi : Oper} {v : Value} {fuel : Nat} {listed : Array Bool} {a : Act} {w : World} (hO : Shut (onceB md ops n = true)) (hi : ops[i]? = some oi)
    (hB : takeB md ops n i listed = true)
    (hQ : ∀ c a w, Q (.panic c) (a.put oi.dst v) w -> Q (.panic c) a w) (hS : S w) (hw : Region.wanted oi (yielded ops a.tmps) = true) (hy : ∀ w, S w -> (execOp a.eval oi).run P w = .ok (.value v) w)
    (h : wpAnyK P md ops Q S n fuel (listed.setIfInBounds i true) (a.put oi.dst v) w) : wpAnyK P md ops Q S n (fuel + 1) listed a w := by
  unfold takeB at hB
  simp only [Bool.and_eq_true, decide_eq_true_eq] at hB
  obtain ⟨⟨⟨b4, b5⟩, b7⟩, b8⟩ := hB
  have hO := hO.out
  unfold onceB at hO
  simp only [Bool.and_eq_true, decide_eq_true_eq] at hO
  obtain ⟨⟨⟨b1, b2⟩, b3⟩, b6⟩ := hO
  exact wpAnyK_first b1 b2 b3 b4 hi (Region.noSelect_spec b6) hQ fuel listed a w (headB_inv b5) (Region.free_spec hi b7) (by simpa using b8) (.inl ⟨hw, hy⟩) hS h
theorem wpAnyK_step {i : Nat} {o : Oper} {fuel : Nat} {listed : Array Bool} {a : Act} {w : World} (hr : Region.ready md ops listed = [i]) (ho : ops[i]? = some o)
    (h : ∀ K' : Act -> World -> Prop, Shut (∀ a w, S w -> (S w -> wpAnyK P md ops Q S n fuel (listed.setIfInBounds i true) a w) -> K' a w) -> if Region.wanted o (yielded ops a.tmps) = true then Oper.wp P o a w K' Q else K' (a.put o.dst undef) w) : wpAnyK P md ops Q S n (fuel + 1) listed a w := by
  refine ⟨fun h0 => (by rw [hr] at h0; cases h0), fun j hj => ?_⟩
  rw [hr] at hj
  have : j = i := by simpa using hj
  subst this
  exact wpOp_step ho (fun K' hK => h K' (fun a w hS hW => hK a w ⟨fun _ => hS, hW hS⟩))
theorem wpAnyK_last {i : Nat} {o : Oper} {fuel : Nat} {listed : Array Bool} {a : Act} {w : World} (hr : Region.ready md ops listed = [i]) (ho : ops[i]? = some o) (hin : n <= i)
    (hd : Region.ready md ops (listed.setIfInBounds i true) = [])
    (h : ∀ K' : Act -> World -> Prop, Shut (∀ a w, Q .normal a w -> K' a w) -> if Region.wanted o (yielded ops a.tmps) = true then Oper.wp P o a w K' Q else K' (a.put o.dst undef) w) : wpAnyK P md ops Q S n (fuel + 1) listed a w := by
  refine ⟨fun h0 => (by rw [hr] at h0; cases h0), fun j hj => ?_⟩
  rw [hr] at hj
  have : j = i := by simpa using hj
  subst this
  refine wpOp_step ho (fun K' hK => h K' (fun a w hq => hK a w ⟨fun hlt => absurd hlt (Nat.not_lt.2 hin), ?_⟩))
  cases fuel with
  | zero => exact ⟨hd, hq⟩
  | succ f => exact ⟨fun _ => hq, by rw [hd]; simp⟩
theorem ks (i : Nat) {d : Option Tmp} {op : Op} {ty : TypeId} {ps : String} {af : Array Edge} {g : Option (Nat × Bool)} {fuel : Nat} {listed : Array Bool} {a : Act} {w : World}
    (h : ∀ K' : Act -> World -> Prop, Shut (∀ a w, S w -> (S w -> wpAnyK P md ops Q S n fuel (listed.setIfInBounds i true) a w) -> K' a w) -> if Region.wanted ⟨d, op, ty, ps, af, g⟩ (yielded ops a.tmps) = true then Oper.wp P ⟨d, op, ty, ps, af, g⟩ a w K' Q else K' (a.put d undef) w)
    (ho : ops[i]? = some ⟨d, op, ty, ps, af, g⟩ := by rfl) (hr : Region.ready md ops listed = [i] := by kernel_rfl) : wpAnyK P md ops Q S n (fuel + 1) listed a w := wpAnyK_step hr ho h
theorem kl (i : Nat) {d : Option Tmp} {op : Op} {ty : TypeId} {ps : String} {af : Array Edge} {g : Option (Nat × Bool)} {fuel : Nat} {listed : Array Bool} {a : Act} {w : World}
    (h : ∀ K' : Act -> World -> Prop, Shut (∀ a w, Q .normal a w -> K' a w) -> if Region.wanted ⟨d, op, ty, ps, af, g⟩ (yielded ops a.tmps) = true then Oper.wp P ⟨d, op, ty, ps, af, g⟩ a w K' Q else K' (a.put d undef) w)
    (ho : ops[i]? = some ⟨d, op, ty, ps, af, g⟩ := by rfl) (hr : Region.ready md ops listed = [i] := by kernel_rfl) (hin : n <= i := by decide) (hd : Region.ready md ops (listed.setIfInBounds i true) = [] := by kernel_rfl) : wpAnyK P md ops Q S n (fuel + 1) listed a w := wpAnyK_last hr ho hin hd h
theorem kcn {K : Act -> World -> Prop} {fuel : Nat} {listed l' : Array Bool} {a a' : Act} {w : World} (hK : Shut (∀ a w, S w -> (S w -> wpAnyK P md ops Q S n fuel listed a w) -> K a w)) (hS : S w) (h : S w -> wpAnyK P md ops Q S n fuel l' a' w)
    (hl : listed = l' := by first | (simp only [List.setIfInBounds_toArray, List.set_cons_zero, List.set_cons_succ]; rfl) | rfl) (ha : a = a' := by first | (simp only [Act.put, List.setIfInBounds_toArray, List.set_cons_zero, List.set_cons_succ]; rfl) | rfl) : K a w :=
  hK.out _ _ hS fun h0 => by rw [hl, ha]; exact h h0
theorem wp_region_K {id : Nat} {a : Act} {w : World} (n : Nat) (S : World -> Prop) (hm : P.follows .mixedOrders = true) (hO : onceB .any ops n = true) (hS : S w.drew)
    (h : S w.drew -> Shut (onceB .any ops n = true) -> wpAnyK P .any ops Q S n ops.size (Array.replicate ops.size false) a w.drew) : (Code.region id ops true).wp P Q a w :=
  wp_region_any hm (wpAny_of_K _ _ _ _ (h hS hO))
end
end Go
namespace Go
section
variable {P : Program} {ops : Array Oper} {Q : Exit -> Act -> World -> Prop} {md : Region.Mode} {S : World -> Prop} {n : Nat}
end
end Go
namespace Go
section
variable {P : Program} {ops : Array Oper} {Q : Exit -> Act -> World -> Prop} {md : Region.Mode} {S : World -> Prop} {n : Nat}
theorem kt (i : Nat) {d : Option Tmp} {op : Op} {ty : TypeId} {ps : String} {af : Array Edge} {g : Option (Nat × Bool)} {v : Value} {fuel : Nat} {listed l' : Array Bool} {a a' : Act} {w : World} (hO : Shut (onceB md ops n = true))
    (h : wpAnyK P md ops Q S n fuel l' a' w)
    (hi : ops[i]? = some ⟨d, op, ty, ps, af, g⟩ := by rfl)
    (hB : takeB md ops n i listed = true := by kernel_rfl)
    (hS : S w := by assumption) (hw : Region.wanted ⟨d, op, ty, ps, af, g⟩ (yielded ops a.tmps) = true := by rfl)
    (hy : ∀ w, S w -> (execOp a.eval ⟨d, op, ty, ps, af, g⟩).run P w = .ok (.value v) w := by
      intro w hSw
      (try dsimp only at hSw)
      go_simp
      all_goals with_reducible rfl)
    (hQ : ∀ c a w, Q (.panic c) (a.put d v) w -> Q (.panic c) a w := by exact fun _ _ _ h => h)
    (hl : listed.setIfInBounds i true = l' := by first | (simp only [List.setIfInBounds_toArray, List.set_cons_zero, List.set_cons_succ]; rfl) | rfl)
    (ha : a.put d v = a' := by simp only [Act.put, List.setIfInBounds_toArray, List.set_cons_zero, List.set_cons_succ]; rfl) : wpAnyK P md ops Q S n (fuel + 1) listed a w :=
  wpAnyK_take hO hi hB hQ hS hw hy (by rw [hl, ha]; exact h)
end
end Go
namespace Go.Lin
def knownB (k t : Int) : Bool := decide (1 <= k) && decide (k <= 5) && decide (0 <= t) && (decide (k = 5) || decide (t = 0))
def fitsB (k t n : Int) : Bool := decide (1 <= n) && (decide (k ≠ 5) || decide (t <= (n - 1) / 2))
theorem knownB_iff {k t : Int} : knownB k t = true ↔ knownL k t := by
  unfold knownB knownL
  simp only [Bool.and_eq_true, Bool.or_eq_true, decide_eq_true_eq, and_assoc]
theorem fitsB_iff {k t : Int} {n : Nat} : fitsB k t n = true ↔ fitsL k t n := by
  unfold fitsB fitsL
  simp only [Bool.and_eq_true, Bool.or_eq_true, decide_eq_true_eq]
  constructor
  · rintro ⟨h1, h2⟩; exact ⟨by omega, h2.imp id fun h => by omega⟩
  · rintro ⟨h1, h2⟩; exact ⟨by omega, h2.imp id fun h => by omega⟩
end Go.Lin
namespace Go.Proofs.YtnnpfhoigmegcaaGreat
open Go.RowKit Go.Rep Go.Lim Go.Lin
set_option maxRecDepth 100000 in
set_option maxHeartbeats 1600000 in
theorem ifits (w : World) (k t n : Int) (hn1 : -9223372036854775808 <= n) (hn2 : n <= 9223372036854775807) :
    Calls Tryz.prog 100 #[.agg #[.int .i64 k, .int .i64 t], .int .i64 n] w (fun e w' => Ext w w' /\ e = .returned (.tuple #[.bool (knownB k t), .bool (fitsB k t n)])) := by
  obtain ⟨W, hW, hE, b0, hz⟩ := boxes1 w #[.int .i64 k, .int .i64 t] 53
  obtain ⟨b, hb⟩ : ∃ b, w.heap.size = b := ⟨_, rfl⟩
  rw [hb] at b0 hz
  have k0 : W.cell? ⟨b, 0, none⟩ = some (.int .i64 k) := b0.cell 0 rfl
  have k1 : W.cell? ⟨b, 1, none⟩ = some (.int .i64 t) := b0.cell 1 rfl
  go_enter Tryz.func100, Tryz.ntmps100
  go_upto_region 1 with fail
  (try simp only [Act.put])
  go_cut [4] from 6 to 28 (fun v wx => v = .bool (knownB k t) /\ wx = W)
  case first =>
    by_cases h1 : 1 <= k
    · by_cases h2 : k <= 5
      · by_cases h3 : 0 <= t
        · by_cases h4 : k = 5
          · go_wp2_with fail
            go_meet
            case rel => exact ⟨congrArg Value.bool (by rw [Bool.eq_iff_iff]; simp [knownB]; try omega), rfl⟩
          · go_wp2_with fail
            go_meet
            case rel => exact ⟨congrArg Value.bool (by rw [Bool.eq_iff_iff]; simp [knownB]; try omega), rfl⟩
        · go_wp2_with fail
          go_meet
          case rel => exact ⟨congrArg Value.bool (by rw [Bool.eq_iff_iff]; simp [knownB]; try omega), rfl⟩
      · go_wp2_with fail
        go_meet
        case rel => exact ⟨congrArg Value.bool (by rw [Bool.eq_iff_iff]; simp [knownB]; try omega), rfl⟩
    · go_wp2_with fail
      go_meet
      case rel => exact ⟨congrArg Value.bool (by rw [Bool.eq_iff_iff]; simp [knownB]; try omega), rfl⟩
  case rest =>
    obtain ⟨rfl, rfl⟩ := hcut
    have hEd : Ext wc wc.drew := (ExtX.refl wc).drew
    obtain ⟨kn, hkn⟩ : ∃ kn, knownB k t = kn := ⟨_, rfl⟩
    rw [hkn]
    have hkn' := hid hkn
    clear hkn
    by_cases h1 : 1 <= n
    · have ew : IntKind.i64.wrap (n - 1) = n - 1 := IntWalk.i64_in _ (by omega)
      by_cases h2 : k = 5
      · subst h2
        have eq : Int.tdiv (n - 1) 2 = (n - 1) / 2 := Int.tdiv_eq_ediv_of_nonneg (by omega)
        by_cases h3 : t <= (n - 1) / 2
        · go_upto_region 2 with fail
          go_region
          go_wp2_with fail
          go_ret2
          exact ⟨hE.trans hEd, by rw [hkn'.out]; simp [fitsB, h1, h3]⟩
        · go_upto_region 2 with fail
          go_region
          go_wp2_with fail
          go_ret2
          exact ⟨hE.trans hEd, by rw [hkn'.out]; simp [fitsB, h1, h3]⟩
      · have h2b : (k != (5 : Int)) = true := by simpa using h2
        go_upto_region 2 with fail
        go_region
        go_wp2_with fail
        go_ret2
        exact ⟨hE.trans hEd, by rw [hkn'.out]; simp [fitsB, h1, h2]⟩
    · go_upto_region 2 with fail
      go_region
      go_wp2_with fail
      go_ret2
      exact ⟨hE.trans hEd, by rw [hkn'.out]; simp [fitsB]; omega⟩
set_option maxRecDepth 100000 in
set_option maxHeartbeats 1600000 in
theorem iranks (w : World) (k t : Int) (n : Nat) (hn : n <= 1000000) (hk : knownL k t) (hf : fitsL k t n) :
    Calls Tryz.prog 101 #[.agg #[.int .i64 k, .int .i64 t], .int .i64 (n : Int)] w (fun e w' => Ext w w' /\ e = .returned (.tuple #[.int .i64 ((rkA k t n : Int) + 1), .int .i64 (rkB k t n : Int)])) := by
  obtain ⟨W, hW, hE, b0, hz⟩ := boxes1 w #[.int .i64 k, .int .i64 t] 53
  obtain ⟨b, hb⟩ : ∃ b, w.heap.size = b := ⟨_, rfl⟩
  rw [hb] at b0 hz
  have k0 : W.cell? ⟨b, 0, none⟩ = some (.int .i64 k) := b0.cell 0 rfl
  have k1 : W.cell? ⟨b, 1, none⟩ = some (.int .i64 t) := b0.cell 1 rfl
  obtain ⟨h1, h2, h3, h4⟩ := hk
  obtain ⟨g1, g2⟩ := hf
  have ew : IntKind.i64.wrap ((n : Int) + 1) = (n : Int) + 1 := IntWalk.i64_in _ (by omega)
  have eq1 : Int.tdiv ((n : Int) + 1) 2 = ((n : Int) + 1) / 2 := Int.tdiv_eq_ediv_of_nonneg (by omega)
  have eq2 : Int.tdiv (n : Int) 2 = (n : Int) / 2 := Int.tdiv_eq_ediv_of_nonneg (by omega)
  have ew2 : IntKind.i64.wrap ((n : Int) / 2 + 1) = (n : Int) / 2 + 1 := IntWalk.i64_in _ (by omega)
  have hc : k = 1 \/ k = 2 \/ k = 3 \/ k = 4 \/ k = 5 := by omega
  rcases hc with rfl | rfl | rfl | rfl | rfl
  · go_enter Tryz.func101, Tryz.ntmps101
    go_wp2_with fail
    go_ret2
    exact ⟨hE, by simp [rkA, rkB]⟩
  · go_enter Tryz.func101, Tryz.ntmps101
    go_wp2_with fail
    go_ret2
    exact ⟨hE, by simp [rkA, rkB]; omega⟩
  · go_enter Tryz.func101, Tryz.ntmps101
    go_wp2_with fail
    go_ret2
    exact ⟨hE, by simp [rkA, rkB]⟩
  · go_enter Tryz.func101, Tryz.ntmps101
    go_wp2_with fail
    go_ret2
    exact ⟨hE, by simp [rkA, rkB]; omega⟩
  · have g3 : t <= ((n - 1) / 2 : Nat) := by omega
    have ew3 : IntKind.i64.wrap (t + 1) = t + 1 := IntWalk.i64_in _ (by omega)
    have ew4 : IntKind.i64.wrap ((n : Int) - t) = (n : Int) - t := IntWalk.i64_in _ (by omega)
    have hEd : Ext W W.drew := (ExtX.refl W).drew
    go_enter Tryz.func101, Tryz.ntmps101
    go_upto_region 9 with fail
    go_region
    go_wp2_with fail
    go_ret2
    exact ⟨hE.trans hEd, by simp [rkA, rkB]; omega⟩
end Go.Proofs.YtnnpfhoigmegcaaGreat
namespace Go.Proofs.YtnnpfhoigmegcaaGreat
open Go.RowKit Go.Rep Go.Sort Go.Lib
variable {α : Type} [Inhabited α]
structure SortBy (lt : α -> α -> Bool) (g : Nat) (lb : Array Value) (sf : Nat) (sb : Array Value) (Y : Nat -> Bool) (n : Nat) (I : Array α -> World -> Prop) : Prop where
  enter : ∀ args w, (callFunc g args).run Tryz.prog w = .ok (.enter g args) w
  ext : ∀ d w w', I d w -> Ext w w' -> I d w'
  low : ∀ d w, I d w -> ∀ k, Y k = true -> k < w.heap.size
  less : ∀ d w, I d w -> d.size = n -> ∀ i j : Nat, i < n -> j < n -> Calls Tryz.prog g (#[.int .i64 i, .int .i64 j] ++ lb) w fun e w' => e = .returned (.bool (lt d[i]! d[j]!)) /\ Ext w w'
  swap : ∀ d w, I d w -> d.size = n -> ∀ i j : Nat, i < n -> j < n -> i ≠ j -> ∃ w', (callFunc sf (#[.int .i64 i, .int .i64 j] ++ sb)).run Tryz.prog w = .ok (.value (.tuple #[])) w' /\ I (swp d i j) w' /\ ExtX Y w w'
set_option maxHeartbeats 2000000 in
set_option maxRecDepth 100000 in
theorem insort_any {lt : α -> α -> Bool} {g : Nat} {lb : Array Value} {sf : Nat} {sb : Array Value} {Y : Nat -> Bool} {n : Nat} {I : Array α -> World -> Prop} (S : SortBy lt g lb sf sb Y n I) (d : Array α) (w : World) (hI : I d w) (hn : d.size = n) (a b : Nat) (hab : a <= b) (hb : b <= n) (hsz : n < 4611686018427387904) :
    Calls Tryz.prog 317 #[.agg #[.func (.func g) #[] lb, .func (.func sf) #[] sb], .int .i64 a, .int .i64 b] w fun e w' => e = .returned (.tuple #[]) /\ I (Sort.insertionSort lt d a b) w' /\ (Sort.insertionSort lt d a b).size = n /\ ExtX Y w w' := by
  obtain ⟨W1, hW1⟩ : ∃ W1, w.alloc (.cells #[.func (.func g) #[] lb, .func (.func sf) #[] sb] 232) = W1 := ⟨_, rfl⟩
  have hE1 : Ext w W1 := by rw [<- hW1]; exact (ExtX.refl w).alloc _
  have hI1 := S.ext _ _ _ hI hE1
  have hY : Y w.heap.size = false := by
    cases h : Y w.heap.size with
    | false => rfl
    | true => exact absurd (S.low _ _ hI _ h) (Nat.lt_irrefl _)
  have c0 : W1.cell? ⟨w.heap.size, 0, none⟩ = some (.func (.func g) #[] lb) := by rw [<- hW1]; exact cell_new 0 rfl
  have c1 : W1.cell? ⟨w.heap.size, 1, none⟩ = some (.func (.func sf) #[] sb) := by rw [<- hW1]; exact cell_new 1 rfl
  obtain ⟨B, hB⟩ : ∃ B, w.heap.size = B := ⟨_, rfl⟩
  have cc : Hid (∀ wr, ExtX Y W1 wr -> wr.cell? ⟨B, 0, none⟩ = some (.func (.func g) #[] lb) /\ wr.cell? ⟨B, 1, none⟩ = some (.func (.func sf) #[] sb)) := hid fun wr h => by
    rw [hB] at c0 c1 hY
    exact ⟨h.cellY c0 hY, h.cellY c1 hY⟩
  have HE1 := hid hE1
  have eg := S.enter
  clear c0 c1 hY hI hE1
  go_enter Tryz.func317, Tryz.ntmps317
  go_wp2
  (try rw [hW1])
  (try rw [hB])
  go_loopw [6] (fun vi wr => ∃ (i : Nat) (dk : Array α), vi = .int .i64 i /\ a < i /\ i <= b + 1 /\ dk.size = n /\ I dk wr /\ ExtX Y W1 wr /\ insOuter lt a b i dk = insOuter lt a b (a + 1) d) (fun vi _ => b + 1 - (intOf vi).toNat)
  case atStart => exact ⟨a + 1, d, by go_num, by omega, by omega, hn, hI1, ExtX.refl _, rfl⟩
  case round =>
    obtain ⟨i, dk, rfl, hai, hib, hsk, hIk, hEk, hO⟩ := hrel
    have HO : Hid (insOuter lt a b i dk = insOuter lt a b (a + 1) d) := hO
    clear hO
    go_wp2
    · go_loopw [7] (fun vj wr2 => ∃ (j : Nat) (dj : Array α), vj = .int .i64 j /\ a <= j /\ j <= i /\ dj.size = n /\ I dj wr2 /\ ExtX Y W1 wr2 /\ insInner lt a j dj = insInner lt a i dk) (fun vj _ => (intOf vj).toNat)
      case atStart => exact ⟨i, dk, rfl, by omega, Nat.le_refl _, hsk, hIk, hEk, rfl⟩
      case round =>
        rename_i wr0 _ _ wr
        obtain ⟨j, dj, rfl, haj, hji, hsj, hIj, hEj, hIn⟩ := hrel
        have hlt : i < b := by assumption
        obtain ⟨c0, c1⟩ := cc.out wr hEj
        have HI : Hid (insInner lt a j dj = insInner lt a i dk) := hIn
        clear hIn
        have out : (j <= a \/ lt dj[j]! dj[j - 1]! = false) -> ∀ w', Ext wr w' -> ∃ (i' : Nat) (dk' : Array α), Value.int .i64 ((i : Int) + 1) = .int .i64 (i' : Nat) /\ a < i' /\ i' <= b + 1 /\ dk'.size = n /\ I dk' w' /\ ExtX Y W1 w' /\ insOuter lt a b i' dk' = insOuter lt a b (a + 1) d := fun hs w' hE' =>
          ⟨i + 1, dj, by go_num, by omega, by omega, hsj, S.ext _ _ _ hIj hE', hEj.trans (ExtX.of hE'), by rw [<- HO.out, insOuter_go _ _ _ _ _ hlt, <- HI.out, insInner_stop _ _ _ _ hs]⟩
        have OUT : Hid _ := out
        clear out
        by_cases hja : a < j
        · have hl := S.less dj wr hIj hsj j (j - 1) (by omega) (by omega)
          rw [show (((j - 1 : Nat) : Int)) = (j : Int) - 1 by omega] at hl
          cases hlv : lt dj[j]! dj[j - 1]! with
          | true =>
            rw [hlv] at hl
            go_wp2_with (go_at_fn g; refine hl.mono ?_; rintro e w' ⟨rfl, hE'⟩; have c2 := hE'.cell c0; have c3 := hE'.cell c1)
            obtain ⟨ws, hs, hIs, hEs⟩ := S.swap dj w' (S.ext _ _ _ hIj hE') hsj j (j - 1) (by omega) (by omega) (by omega)
            rw [show (((j - 1 : Nat) : Int)) = (j : Int) - 1 by omega] at hs
            rw [hs, Oper.upon_value]
            go_wp2
            go_roundw
            case rel =>
              (repeat apply Exists.intro)
              refine ⟨⟨j - 1, swp dj j (j - 1), by congr 1 <;> omega, by omega, by omega, by rw [size_swp]; exact hsj, hIs, (hEj.trans (ExtX.of hE')).trans hEs, ?_⟩, by rw [decide_eq_true hlt, show ((j - 1 : Nat) : Int) = (j : Int) - 1 by omega]⟩
              rw [<- HI.out, insInner_go lt a j dj hja hlv]
            case measure => simp [intOf]; omega
          | false =>
            rw [hlv] at hl
            go_wp2_with (go_at_fn g; refine hl.mono ?_; rintro e w' ⟨rfl, hE'⟩)
            go_roundw
            case rel => exact OUT.out (Or.inr hlv) _ hE'
            case measure => simp [intOf]; omega
        · go_wp2
          go_roundw
          case rel => exact OUT.out (Or.inl (by omega)) _ (ExtX.refl _)
          case measure => simp [intOf]; omega
    · have hge : ¬ i < b := by assumption
      go_end0
      have hfin : Sort.insertionSort lt d a b = dk := by unfold Sort.insertionSort; rw [<- HO.out, insOuter_stop _ _ _ _ _ hge]
      exact ⟨rfl, by rw [hfin]; exact hIk, by rw [hfin]; exact hsk, (ExtX.of HE1.out).trans hEk⟩
end Go.Proofs.YtnnpfhoigmegcaaGreat
namespace Go.Proofs.YtnnpfhoigmegcaaGreat
open Go.RowKit Go.Rep Go.Sort Go.Lib
variable {α : Type} [Inhabited α]
set_option maxHeartbeats 1600000 in
set_option maxRecDepth 100000 in
theorem stable_any {lt : α -> α -> Bool} {g : Nat} {lb : Array Value} {sf : Nat} {sb : Array Value} {Y : Nat -> Bool} {n : Nat} {I : Array α -> World -> Prop} (S : SortBy lt g lb sf sb Y n I) (d : Array α) (w : World) (hI : I d w) (hn : d.size = n) (h20 : n <= 20) :
    Calls Tryz.prog 267 #[.agg #[.func (.func g) #[] lb, .func (.func sf) #[] sb], .int .i64 n] w fun e w' => e = .returned (.tuple #[]) /\ I (Sort.insertionSort lt d 0 n) w' /\ (Sort.insertionSort lt d 0 n).size = n /\ ExtX Y w w' := by
  obtain ⟨W1, hW1⟩ : ∃ W1, w.alloc (.cells #[.func (.func g) #[] lb, .func (.func sf) #[] sb] 232) = W1 := ⟨_, rfl⟩
  have hE1 : Ext w W1 := by rw [<- hW1]; exact (ExtX.refl w).alloc _
  have hI1 := S.ext _ _ _ hI hE1
  have hY : Y w.heap.size = false := by
    cases h : Y w.heap.size with
    | false => rfl
    | true => exact absurd (S.low _ _ hI _ h) (Nat.lt_irrefl _)
  have c0 : W1.cell? ⟨w.heap.size, 0, none⟩ = some (.func (.func g) #[] lb) := by rw [<- hW1]; exact cell_new 0 rfl
  have c1 : W1.cell? ⟨w.heap.size, 1, none⟩ = some (.func (.func sf) #[] sb) := by rw [<- hW1]; exact cell_new 1 rfl
  obtain ⟨B, hB⟩ : ∃ B, w.heap.size = B := ⟨_, rfl⟩
  have HE1 := hid hE1
  have hi := insort_any S d W1 hI1 hn 0 n (Nat.zero_le _) (Nat.le_refl _) (by omega)
  rw [hB] at c0 c1 hY
  clear hI hE1 hI1
  go_enter Tryz.func267, Tryz.ntmps267
  go_wp2
  (try rw [hW1])
  (try rw [hB])
  rcases Nat.lt_or_ge n 20 with h | h
  · refine wp_loop_rounds 1 ?_
    rw [rounds_succ]
    go_wp2_with (go_at_call 317; refine hi.mono ?_; rintro e w1 ⟨rfl, hI2, hs2, hE2⟩)
    refine wp_loop_rounds 1 ?_
    rw [rounds_succ]
    go_wp2
    all_goals first | (exfalso; omega) | (go_end0; exact ⟨rfl, hI2, hs2, (ExtX.of HE1.out).trans hE2⟩)
  · have hn20 : n = 20 := by omega
    subst hn20
    refine wp_loop_rounds 2 ?_
    rw [rounds_succ]
    go_wp2_with (go_at_call 317; refine hi.mono ?_; rintro e w1 ⟨rfl, hI2, hs2, hE2⟩; have c2 := hE2.cellY c0 hY; have c3 := hE2.cellY c1 hY)
    have hi2 := insort_any S _ w1 hI2 hs2 20 20 (Nat.le_refl _) (Nat.le_refl _) (by omega)
    rw [rounds_succ]
    go_wp2_with (go_at_call 317; refine hi2.mono ?_; rintro e w2 ⟨rfl, hI3, hs3, hE3⟩)
    refine wp_loop_rounds 1 ?_
    rw [rounds_succ]
    go_wp2
    have hst : Sort.insertionSort lt (Sort.insertionSort lt d 0 20) 20 20 = Sort.insertionSort lt d 0 20 := by
      rw [show Sort.insertionSort lt (Sort.insertionSort lt d 0 20) 20 20 = insOuter lt 20 20 21 (Sort.insertionSort lt d 0 20) from rfl, insOuter_stop _ _ _ _ _ (by omega)]
    rw [hst] at hI3
    all_goals first | (exfalso; omega) | (go_end0; exact ⟨rfl, hI3, hs2, (ExtX.of HE1.out).trans (hE2.trans hE3)⟩)
set_option maxHeartbeats 1000000 in
set_option maxRecDepth 100000 in
theorem slicestable_any (t e : TypeId) (i ie : TypeInfo) (hi : Tryz.prog.info? t = some i) (hd : i.desc = .slice e) (hpk : Tryz.prog.packed t = false) (hie : Tryz.prog.info? e = some ie) (ke : Nat) (hke : ∀ w, (Extern.Rtype.kind e).run Tryz.prog w = .ok ke w)
    (p : Option Addr) (n c : Nat) (_hn : n < 4611686018427387904) (f : Nat) (hf : Tryz.prog.funcs.findIdx? (·.name == "internal/reflectlite" ++ ".Swapper$" ++ toString (swapperK n ie ke)) = some f) (g : Nat) (lb : Array Value) (w : World) (R : World -> Prop)
    (hp : ∀ w1, Ext w w1 -> Calls Tryz.prog 267 #[.agg #[.func (.func g) #[] lb, .func (.func f) #[] (if swapperK n ie ke <= 2 then #[] else #[.slice p n c, typeHandle Tryz.prog e])], .int .i64 n] w1 fun e w' => e = .returned (.tuple #[]) /\ R w') :
    Calls Tryz.prog 186 #[.iface t (.slice p n c), .func (.func g) #[] lb] w fun e w' => e = .returned (.tuple #[]) /\ R w' := by
  have hv := run_valueOf_slice (P := Tryz.prog) t e i hi hd p n c w
  have hs := fun w => run_swapper_slice (P := Tryz.prog) t e i ie hi hd hie ke hke p n c f hf w
  have hl := fun a w ha => run_valueLen_slice (P := Tryz.prog) t e i hi hd hpk a p n c w ha
  generalize (if swapperK n ie ke <= 2 then (#[] : Array Value) else #[.slice p n c, typeHandle Tryz.prog e]) = B at hs hp
  simp only [typeHandle] at hv hl
  (first | rw [show Tryz.prog.globals.size = 1 by kernel_rfl] at hl | rw [show Tryz.prog.globals.size = 0 by kernel_rfl] at hl | rw [show Tryz.prog.globals.size = 2 by kernel_rfl] at hl | rw [show Tryz.prog.globals.size = 3 by kernel_rfl] at hl)
  have hE : Ext w ((w.alloc (.cells #[.slice p n c] t)).alloc (.cells #[.pointer (some ⟨Tryz.prog.globals.size, t, none⟩), .pointer (some ⟨w.heap.size, 0, none⟩), .int .u64 151] 226)) := ((ExtX.refl w).alloc _).alloc _
  have hp' := hp _ hE
  go_enter Tryz.func186, Tryz.ntmps186
  go_wp2
  rw [run_callFunc_extern Tryz.func265 (by kernel_rfl) (by kernel_rfl) (by kernel_rfl) (e := fun args => Extern.ReflectliteValue.unpack (args.getD 0 (.tuple #[]))) (by kernel_rfl),
    show Sem.run Tryz.prog ((fun args : Array Value => Extern.ReflectliteValue.unpack (args.getD 0 (.tuple #[]))) #[.iface t (.slice p n c)]) w = _ from hv]
  simp only [Result.andThen]
  rw [Oper.upon_value]
  go_wp2
  rw [run_callFunc_extern Tryz.func266 (by kernel_rfl) (by kernel_rfl) (by kernel_rfl) (e := Extern.ReflectliteSwapper.swapper "internal/reflectlite" (Extern.ReflectliteValue.valueError "Swapper")) (by kernel_rfl), hs]
  simp only [Result.andThen]
  rw [Oper.upon_value]
  go_wp2
  rw [run_callFunc_extern Tryz.func268 (by kernel_rfl) (by kernel_rfl) (by kernel_rfl) (e := Extern.ReflectliteValue.method (Extern.ReflectliteValue.valueError "reflectlite.Value.Len" 0) Extern.ReflectliteValue.len) (by kernel_rfl),
    hl _ _ (by simp)]
  simp only [Result.andThen]
  rw [Oper.upon_value]
  go_wp2_with (go_at_call 267; refine hp'.mono ?_; rintro e w' ⟨rfl, hR⟩)
  go_end0
  exact ⟨rfl, hR⟩
end Go.Proofs.YtnnpfhoigmegcaaGreat
namespace Go.Rep
open Go.RowKit Go.Lim Go.Extern Go.Extern.Rtype Go.Lib
section
variable {P : Program} {α : Type} {R : Mem -> Value -> α -> Prop} {sz : Nat} {X : Nat -> Bool} {base : Nat} {e : TypeId} {w : World} {ao : Option Addr} {cap : Nat} {l : List α}
theorem OL.run_load {t : TypeId} {ti : TypeInfo} (ht : P.info? t = some ti) (hts : ti.size = sz) (hagg : ∀ w, (isAgg t).run P w = .ok true w) (_hR : Elem R sz) (hS : ∀ h u x, R h u x -> ∃ cs, u = .agg cs)
    (h : OL R sz X base e w ao cap l) (i : Nat) (hi : i < l.length) : ∃ u, (loadVar t (adr ao (i * sz))).run P w = .ok u w /\ R (mk (un X ao) w) u l[i] := by
  obtain ⟨us, h1, h2, _, h3, h5⟩ := h.cells
  have hi' : i < us.length := by omega
  obtain ⟨cs, hcs⟩ := hS _ _ _ (h5 i hi' hi)
  have hsz : cs.size = sz := by have := h2 _ (List.getElem_mem hi'); rw [hcs] at this; exact this
  have hl := run_loadCells_list (P := P) w (adr ao (i * sz)) cs.toList (fun j v hj => by
    rw [adr_add]
    have hj1 : j < sz := by rw [<- hsz]; exact (List.getElem?_eq_some_iff.1 hj).1
    have hget := flat_get us i j hi' h2 hj1
    rw [hcs] at hget
    have hj2 : (cellsL (.agg cs))[j]? = some v := by simpa [cellsL, Value.cells] using hj
    rw [hj2] at hget
    exact (h3 _ _ hget).1)
  refine ⟨us[i], ?_, h5 i hi' hi⟩
  rw [hcs]
  simp only [Array.length_toList, hsz, Array.toArray_toList] at hl
  simp [loadVar, hagg, sizeOf, typeInfo, ht, hts, hl, Result.andThen]
theorem OL.run_swap {t : TypeId} {ti : TypeInfo} (g : Bool) (ht : P.info? t = some ti) (hts : ti.size = sz) (hagg : ∀ w, (isAgg t).run P w = .ok true w) (hR : Elem R sz) (hS : ∀ h u x, R h u x -> ∃ cs, u = .agg cs)
    (h : OL R sz X base e w ao cap l) (i j : Nat) (hi : i < l.length) (hj : j < l.length) (c : Nat) :
    ∃ w', (ReflectliteSwapper.swap g #[.int .i64 i, .int .i64 j, .slice ao l.length c, typeHandle P t]).run P w = .ok (.tuple #[]) w' /\ OL R sz X base e w' ao cap ((l.set i l[j]).set j l[i]) /\ ExtX (ob ao) w w' := by
  obtain ⟨u, hu, ru⟩ := h.run_load (P := P) ht hts hagg hR hS i hi
  obtain ⟨v, hv, rv⟩ := h.run_load (P := P) ht hts hagg hR hS j hj
  obtain ⟨w1, s1, o1, e1⟩ := h.run_store (P := P) ht hts hR i hi v l[j] rv
  have ru1 := hR.mono _ _ _ _ (mkun_over e1 (.inl rfl)) ru
  obtain ⟨w2, s2, o2, e2⟩ := o1.run_store (P := P) ht hts hR j (by simpa using hj) u l[i] ru1
  refine ⟨w2, ?_, o2, e1.trans e2⟩
  rcases h.form with ⟨rfl, rfl, rfl⟩ | ⟨b, cur, rfl, _⟩
  · simp at hi
  have i0 : ¬ ((i : Int) < 0) := by omega
  have i1 : ¬ ((i : Int) ≥ l.length) := by omega
  have j0 : ¬ ((j : Int) < 0) := by omega
  have j1 : ¬ ((j : Int) ≥ l.length) := by omega
  simp only [adr, Option.getD_some, Nat.zero_add] at hu hv s1 s2
  rw [rl_swap]
  cases g <;> simp [i0, i1, j0, j1, ofHandle, handleType, typeHandle, ReflectliteSwapper.exchange, sizeOf, typeInfo, ht, hts, Addr.add_lit, hu, hv, s1, s2, Result.andThen]
end
theorem swp_toList {α : Type} [Inhabited α] (d : Array α) (i j : Nat) (hi : i < d.toList.length) (hj : j < d.toList.length) : (Go.Sort.swp d i j).toList = (d.toList.set i d.toList[j]).set j d.toList[i] := by
  have hi' : i < d.size := by simpa using hi
  have hj' : j < d.size := by simpa using hj
  unfold Go.Sort.swp
  simp [hi', hj']
end Go.Rep
namespace Go.Lin
open Go.Lim Go.Rep
end Go.Lin
namespace Go.Proofs.YtnnpfhoigmegcaaGreat
open Go.RowKit Go.Rep Go.Lim
end Go.Proofs.YtnnpfhoigmegcaaGreat
namespace Go.Proofs.YtnnpfhoigmegcaaGreat
open Go.RowKit Go.Rep Go.Lim Go.Lin
end Go.Proofs.YtnnpfhoigmegcaaGreat
namespace Go.Proofs.YtnnpfhoigmegcaaGreat
open Go.RowKit Go.Rep Go.Lim Go.Lin
end Go.Proofs.YtnnpfhoigmegcaaGreat
namespace Go.Rep
open Go.RowKit
section
variable {P : Program} {ops : Array Oper} {Q : Exit -> Act -> World -> Prop} {rest : List Oper} {a : Act} {w : World}
variable {α : Type} {R : Mem -> Value -> α -> Prop} {sz : Nat} {X : Nat -> Bool} {base : Nat} {e : TypeId} {ao : Option Addr} {cap : Nat} {l : List α}
variable {d : Option Tmp} {ty : TypeId} {ps : String} {af : Array Edge}
theorem OL.field (hR : Elem R sz) (h : OL R sz X base e w ao cap l) (i j : Nat) (hi : i < l.length) (hj : j < sz) (v : Value) (y : α)
    (hu : ∀ u, R (mk (un X ao) w) u l[i] -> ∃ u', cellsL u' = (cellsL u).set j v /\ R (mk (un X ao) w) u' y) :
    (∃ v0, w.cell? (adr ao (i * sz + j)) = some v0) /\ w.frozen? (adr ao (i * sz + j)) = false /\ Sl R sz (mk X (w.setCell (adr ao (i * sz + j)) v)) ao (l.set i y) /\ ExtX (ob ao) w (w.setCell (adr ao (i * sz + j)) v) := by
  obtain ⟨us, h1, h2, h22, h3, h5⟩ := h.cells
  have hsub : (i + 1) * sz <= us.length * sz := Nat.mul_le_mul_right _ (by omega)
  rw [Nat.succ_mul] at hsub
  have hcell : ∀ k (hk : k < us.length) q (hq : q < sz), w.cell? (adr ao (k * sz + q)) = some (us[k].cells[q]'(by rw [h2 _ (List.getElem_mem _)]; exact hq)) /\ w.frozen? (adr ao (k * sz + q)) = false := by
    intro k hk q hq
    have hz : us[k].cells.size = sz := h2 _ (List.getElem_mem _)
    have hg := flat_get us k q hk h2 hq
    have hc : (cellsL us[k])[q]? = some (us[k].cells[q]'(by rw [hz]; exact hq)) := by simp [cellsL, hz, hq]
    rw [hc] at hg
    exact h3 _ _ hg
  have hE : ExtX (ob ao) w (w.setCell (adr ao (i * sz + j)) v) :=
    ⟨rfl, rfl, rfl, by simp [World.setCell], fun k hk hy => Below.heap_setCell _ _ _ _ (fun e => by
      have hf := h.form
      rcases hf with ⟨_, _, rfl⟩ | ⟨g, cur, rfl, _⟩
      · simp at hi
      · subst e; simp [ob] at hy)⟩
  have hX : ∀ q, X (adr ao q).block = false := by
    intro q
    have hf := h.form
    have hx := h.1
    rcases hf with ⟨_, _, rfl⟩ | ⟨g, cur, rfl, _⟩
    · simp at hi
    · exact hx _ (by simp [ob, adr])
  have hi' : i < us.length := by omega
  refine ⟨⟨_, (hcell i hi' j hj).1⟩, (hcell i hi' j hj).2, ⟨by simpa using h.hd, fun k hk => ?_⟩, hE⟩
  have hk' : k < us.length := by simpa [h1] using hk
  have hle : Le (mk (un X ao) w) (mk X (w.setCell (adr ao (i * sz + j)) v)) := mk_over hE (fun k _ hk => un_right hk) fun k _ hk => un_left hk
  by_cases hki : k = i
  · subst hki
    obtain ⟨u', hu1, hu2⟩ := hu us[k] (h5 k hk' (by omega))
    have hsz' := hR.size _ _ _ hu2
    refine ⟨u', hsz', fun q hq => ?_, by simpa using hR.mono _ _ _ _ hle hu2⟩
    have hq' : q < sz := by omega
    have hget : (cellsL u')[q]? = some u'.cells[q] := by simp [cellsL, hq]
    rw [hu1, List.getElem?_set] at hget
    unfold mk
    rw [hX]
    by_cases hqj : j = q
    · subst hqj
      rw [if_pos rfl, if_pos (by simp [cellsL, h2 _ (List.getElem_mem hk'), hj])] at hget
      have : u'.cells[j] = v := by simpa using hget.symm
      rw [this]
      exact World.cell?_setCell_same' w _ v (by rw [(hcell k hk' j hj).1]; rfl)
    · rw [if_neg hqj] at hget
      have hc := (hcell k hk' q hq').1
      have : us[k].cells[q]'(by rw [h2 _ (List.getElem_mem _)]; exact hq') = u'.cells[q] := by
        simpa [cellsL] using (List.getElem?_eq_some_iff.1 hget).2
      rw [this] at hc
      rw [<- hc]
      exact World.cell?_setCell_other w _ _ v (by simp [adr])
  · have hz : us[k].cells.size = sz := h2 _ (List.getElem_mem _)
    refine ⟨us[k], hz, fun q hq => ?_, by simpa [List.getElem_set, Ne.symm hki] using hR.mono _ _ _ _ hle (h5 k hk' (by simpa using hk))⟩
    have hc := (hcell k hk' q (by omega)).1
    unfold mk
    rw [hX, <- hc]
    refine World.cell?_setCell_other w _ _ v ?_
    have hne : k * sz + q ≠ i * sz + j := by
      intro he
      rcases Nat.lt_or_gt_of_ne hki with hlt | hlt
      · have := Nat.mul_le_mul_right sz (show k + 1 <= i by omega)
        rw [Nat.succ_mul] at this; omega
      · have := Nat.mul_le_mul_right sz (show i + 1 <= k by omega)
        rw [Nat.succ_mul] at this; omega
    simp [adr]
theorem st_cell {t : TypeId} {x y : Operand} {A : Addr} {v v0 : Value} (hT : TyI P t 1) (hx : a.eval x = .pointer (some A)) (hy : a.eval y = v) (hv : v.cells = #[v]) (hone : v.oneCell' = true) (hc : w.cell? A = some v0) (hf : w.frozen? A = false)
    (K : wpList P ops Q rest (a.put d undef) (w.setCell A v)) :
    wpList P ops Q (⟨d, .store t x y, ty, ps, af, none⟩ :: rest) a w := by
  refine wpList_plain rfl fun K' hK' => ?_
  obtain ⟨ti, ht, hts⟩ := hT
  unfold Oper.wp
  subst hy
  have hr := run_store P w A (a.eval y) .plain hone
  rw [hc, hf] at hr
  simp only [Bool.false_eq_true, if_false] at hr
  simp [execOp, hx, Instr.storeAt, Instr.sureAddr, storeVar, sizeOf, typeInfo, ht, hts, hv, Result.andThen, storeCells, Addr.add_zero', hr]
  exact hK' _ _ K
end
end Go.Rep
namespace Go.Rep
open Go.RowKit
section
variable {P : Program} {ops : Array Oper} {Q : Exit -> Act -> World -> Prop} {rest : List Oper} {a : Act} {w : World}
variable {α : Type} {R : Mem -> Value -> α -> Prop} {sz : Nat} {X : Nat -> Bool} {e : TypeId}
variable {d : Option Tmp} {ty : TypeId} {ps : String} {af : Array Edge}
theorem OL.beside {base cap : Nat} {ao oo oo' : Option Addr} {l : List α} {w' : World} (hR : Elem R sz) (h : OL R sz (un X oo) base e w ao cap l) (hE : ExtX (ob oo) w w') (ho : oo' = oo \/ ∃ g, oo' = some ⟨g, 0, none⟩ /\ w.heap.size <= g) : OL R sz (un X oo') base e w' ao cap l :=
  h.ext hR hE (fun k _ hk => un_right hk) fun k hk hz => by
    rcases ho with rfl | ⟨g, rfl, hg⟩
    · exact hz
    · by_cases hx : X k = true
      · exact un_left hx
      · have : g = k := by simpa [un, hx, ob] using hz
        omega
end
end Go.Rep
namespace Go.Rep
open Go.RowKit
section
variable {P : Program} {ops : Array Oper} {Q : Exit -> Act -> World -> Prop} {rest : List Oper} {a : Act} {w : World}
variable {α : Type} {R : Mem -> Value -> α -> Prop} {sz : Nat} {X : Nat -> Bool} {base : Nat} {e : TypeId} {ao : Option Addr} {cap : Nat} {l : List α}
variable {d : Option Tmp} {ty : TypeId} {ps : String} {af : Array Edge}
theorem OL.take (h : OL R sz X base e w ao cap l) (_hsz : ∀ m u x, R m u x -> u.cells.size = sz) (n : Nat) : OL R sz X base e w ao cap (l.take n) := by
  have hf := h.form
  obtain ⟨hx, us, h1, h2, h22, ⟨h3, h4⟩, h5⟩ := h
  have hus : ∀ u ∈ us.take n, u.cells.size = sz := fun u hu => h2 u (List.mem_of_mem_take hu)
  refine ⟨hx, us.take n, by simp [h1], hus, fun u hu => h22 u (List.mem_of_mem_take hu), ⟨by rw [flat_length _ hus]; simp [h1], ?_⟩, fun i hi hi' => ?_⟩
  · rcases h4 with ⟨hv, hn⟩ | ⟨g, c, cur, hv, q1, q2, q3, q4, q5, q6⟩
    · simp at hv
      obtain ⟨rfl, h0, rfl⟩ := hv
      refine .inl ⟨by simp [h0], by simp [h0]⟩
    · simp at hv
      obtain ⟨rfl, rfl⟩ := hv
      refine .inr ⟨g, cap, cur, by simp, q1, q2, by simp; omega, q4, q5, ?_⟩
      have e1 : (us.take n).flatMap cellsL = (us.flatMap cellsL).take ((l.take n).length * sz) := by
        have e2 : us.flatMap cellsL = (us.take n).flatMap cellsL ++ (us.drop n).flatMap cellsL := by
          rw [<- List.flatMap_append, List.take_append_drop]
        rw [e2]
        have e3 : (l.take n).length * sz = ((us.take n).flatMap cellsL).length := by rw [flat_length _ hus]; simp [h1]
        rw [e3, List.take_left]
      rw [e1, <- q6, List.take_take]
      congr 1
      have : (l.take n).length <= l.length := by simp; omega
      exact (Nat.min_eq_left (Nat.mul_le_mul_right _ this)).symm
  · simp only [List.getElem_take]
    exact h5 i (by simp at hi; omega) (by simp at hi'; omega)
theorem st_append_room {t by_ : Nat} {z : Value} {arr : Array Value} {s x : Operand} {g n : Nat} (T : SliceT P t e sz by_ z) (hR : Elem R sz)
    (hs : a.eval s = .slice (some ⟨g, 0, none⟩) n cap) (hn : l.length = n) (hx : a.eval x = .slice (some ⟨w.heap.size, 0, none⟩) 1 1) (h : OL R sz X base e w (some ⟨g, 0, none⟩) cap l)
    (u : Value) (y : α) (harr : arr = u.cells) (hu : R (mk (un X (some ⟨g, 0, none⟩)) w) u y) (hroom : n + 1 <= cap)
    (K : ∀ w', OL R sz X base e w' (some ⟨g, 0, none⟩) cap (l ++ [y]) -> ExtX (ob (some ⟨g, 0, none⟩)) w w' -> wpList P ops Q rest (a.put d (.slice (some ⟨g, 0, none⟩) (n + 1) cap)) w') :
    wpList P ops Q (⟨d, .call { callee := .builtin .append, args := #[s, x], argTypes := #[t, t] }, ty, ps, af, none⟩ :: rest) a (w.alloc (.cells arr e)) := by
  subst hn
  refine wpList_plain rfl fun K' hK' => ?_
  have hE : Ext w (w.alloc (.cells arr e)) := (ExtX.refl w).alloc _
  have h' := h.ext0 hR hE
  obtain ⟨i, hi, hz, hsz, hby⟩ := info_parts T.info
  have hat := at_new w arr e u harr
  have husz := hR.size _ _ _ hu
  have hu1 := hR.one _ _ _ hu
  have hu2 : R (mk (un X (some ⟨g, 0, none⟩)) (w.alloc (.cells arr e))) u y := hR.mono _ _ _ _ (mk_ext hE) hu
  have hnl : (cellsL u).length = 1 * i.size := by simp [cellsL, husz, hsz]
  have hnews : ∀ j v, (cellsL u)[j]? = some v -> (w.alloc (.cells arr e)).cell? ((⟨w.heap.size, 0, none⟩ : Addr).add j) = some v := by
    intro j v hj
    rw [<- adr_addr rfl]; exact hat.2 j v (by simpa using hj)
  have hform := h'.form
  generalize hW : w.alloc (.cells arr e) = W at hE h' hu2 hnews hform
  obtain ⟨hx', us, h1, h2, h22, h3, h5⟩ := h'
  rcases hform with ⟨hv, _⟩ | ⟨g', cur, hv, h6, h7, h8, h9, h10⟩
  · simp at hv
  simp at hv
  subst hv
  have hul : (us.flatMap cellsL).length = l.length * i.size := by rw [flat_length us h2, h1, hsz]
  have hfl : (us ++ [u]).flatMap cellsL = us.flatMap cellsL ++ cellsL u := by simp
  have hnew : ∀ v ∈ us ++ [u], v.cells.size = sz := by
    intro v hv
    rcases List.mem_append.1 hv with hv | hv
    · exact h2 v hv
    · rw [List.mem_singleton.1 hv]; exact husz
  have hnew1 : ∀ v ∈ us ++ [u], ∀ c ∈ cellsL v, c.oneCell' = true := by
    intro v hv c hc
    rcases List.mem_append.1 hv with hv | hv
    · exact h22 v hv c hc
    · rw [List.mem_singleton.1 hv] at hc; exact hu1 c hc
  have hfit : l.length * i.size + (cellsL u).length <= cur.size := by rw [hnl, h10, <- hsz, <- Nat.add_mul]; exact Nat.mul_le_mul_right _ hroom
  have hr := run_append_room (P := P) W t ty e i T.und hi g l.length cap cur h7 ⟨w.heap.size, 0, none⟩ 1 1 (cellsL u) hnl hnews hu1 hroom hfit
  have hE2 : ExtX (ob (some ⟨g, 0, none⟩)) W (W.setRow g (cur.toList.take (l.length * i.size) ++ cellsL u ++ cur.toList.drop (l.length * i.size + (cellsL u).length)).toArray) :=
    ⟨rfl, rfl, rfl, by simp, fun k _ hk => setRow_other W g k _ (fun ek => by subst ek; simp [ob] at hk)⟩
  have hll : (l ++ [y]).length = l.length + 1 := by simp
  have hOL : OL R sz X base e (W.setRow g (cur.toList.take (l.length * i.size) ++ cellsL u ++ cur.toList.drop (l.length * i.size + (cellsL u).length)).toArray) (some ⟨g, 0, none⟩) cap (l ++ [y]) := by
    refine ⟨hx', us ++ [u], by simp [h1], hnew, hnew1, ⟨by rw [hfl]; simp [hul, hnl, hsz, Nat.add_mul], .inr ⟨g, cap, _, by rw [hll], h6, setRow_heap W g cur _ e _ h7, by rw [hll]; exact hroom, h9, ?_, ?_⟩⟩, ?_⟩
    · simp only [List.size_toArray, List.length_append, List.length_take, List.length_drop, Array.length_toList]; omega
    · rw [hfl, hll]
      rcases h3.2 with ⟨hv, _⟩ | ⟨g', c', cur', hv, _, h7', _, _, _, h11⟩
      · simp at hv
      simp at hv
      obtain ⟨rfl, rfl⟩ := hv
      rw [h7] at h7'
      obtain rfl : cur = cur' := by simpa using h7'
      have e1 : cur.toList.take (l.length * i.size) = us.flatMap cellsL := by rw [hsz]; exact h11
      rw [e1]
      have hll2 : (l.length + 1) * sz = (us.flatMap cellsL ++ cellsL u).length := by simp only [List.length_append, hul, hnl, hsz, Nat.add_mul]
      rw [hll2]
      exact List.take_left
    · intro k hk hk'
      have hle : Le (mk (un X (some ⟨g, 0, none⟩)) W) (mk (un X (some ⟨g, 0, none⟩)) _) := mkun_over hE2 (.inl rfl)
      by_cases hlt : k < us.length
      · simpa [List.getElem_append_left hlt, List.getElem_append_left (show k < l.length by omega)] using hR.mono _ _ _ _ hle (h5 k hlt (by omega))
      · have hke : k = us.length := by simp at hk; omega
        subst hke
        have := hR.mono _ _ _ _ hle hu2
        simpa [List.getElem_append_right, h1] using this
  unfold Oper.wp execOp
  simp only [resolve, invoke, builtin, Sem.run_bind, Sem.run_pure, Result.andThen_ok, List.map_toArray, List.map_cons, List.map_nil, hs, hx]
  rw [hr]
  exact hK' _ _ (K _ hOL ((ExtX.of hE).trans hE2))
theorem st_make0 {t by_ : Nat} {z : Value} {x y : Operand} {kl kc : IntKind} {m m0 : Int} (T : SliceT P t e sz by_ z) (_hzs : z.cells.size = sz) (X : Nat -> Bool) (hX : ∀ k, X k = true -> k < w.heap.size) (base : Nat) (hbase : base <= w.heap.size)
    (n : Nat) (hl : a.eval x = .int kl m0) (hm0 : m0 = 0) (hc : a.eval y = .int kc m) (hm : m = (n : Int)) (hroom : by_ * n <= 281474976710656) (hmax : n <= 9223372036854775807)
    (K : ∀ w', OL R sz X base e w' (some ⟨w.heap.size, 0, none⟩) n [] -> Ext w w' -> w'.heap.size = w.heap.size + 1 -> wpList P ops Q rest (a.put d (.slice (some ⟨w.heap.size, 0, none⟩) 0 n)) w') :
    wpList P ops Q (⟨d, .makeSlice t x y, ty, ps, af, none⟩ :: rest) a w := by
  refine wpList_plain rfl fun K' hK' => ?_
  subst hm; subst hm0
  obtain ⟨i, hi, hiz, hsz, hby⟩ := info_parts T.info
  have hr := Go.run_make (P := P) w t e i z T.und hi hiz kl kc 0 n (by omega) (by omega) (by rw [hby, <- Int.natCast_mul]; omega) (by omega)
  simp only [Int.toNat_natCast, Int.toNat_zero] at hr
  unfold Oper.wp
  simp [execOp, hl, hc, hr, Result.andThen]
  refine hK' _ _ (K _ ⟨fun k hk => ?_, [], rfl, by simp, by simp, ⟨by simp, .inr ⟨w.heap.size, n, _, by simp, hbase, heap_alloc_new w _, by simp, by simpa [maxLen] using hmax, by rw [size_madeCells, hsz], by simp⟩⟩, fun i hi => by simp at hi⟩ ((ExtX.refl w).alloc _) (by simp))
  have : w.heap.size = k := by simpa [ob] using hk
  cases hh : X k
  · rfl
  · have := hX k hh; omega
end
end Go.Rep
