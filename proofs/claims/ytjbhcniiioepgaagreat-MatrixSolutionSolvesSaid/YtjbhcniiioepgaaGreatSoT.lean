/- Bounds of determinants and products, for law 06. Conditions: none. The inverse that the program computes. Conditions: at most four rows where a determinant is spoken of. matrix: Inverse. Conditions: few rows, numbers of few digits. Solve, as lists. Conditions: none. -/
import Derived.Test.YtjbhcniiioepgaaGreatSoS
namespace Go.Lin
open Go.Lim
theorem sqf {k : Nat} {m : Mat} (h : Shp k k m) (hk : k ≤ 96) : formedB m = true ∧ colsL m = k := by
  by_cases h0 : k = 0
  · have : m = [] := List.eq_nil_of_length_eq_zero (by rw [h.1]; exact h0)
    subst this
    exact ⟨rfl, by rw [h0]; rfl⟩
  · exact ⟨shpf h hk (by omega) hk, shpc h (by omega)⟩
theorem detV_hq {m : Mat} {n : Nat} (hT : TameE m n) (hn : n ≤ 6) : hq (detV m n) ≤ 68719476736 := by
  obtain ⟨B, hB7, hBj⟩ := hT
  have hBn := hBj n (Nat.le_refl _)
  have h1 := pr_hq (f := fun i => ent (eN m n).1 i i) (fun i => hBn i i) n
  have h2 : n * B ≤ 6 * B := Nat.mul_le_mul_right _ hn
  unfold detV
  split
  · rw [hq_neg]; omega
  · omega
theorem mulL_bm {a b : Mat} {n c B : Nat} (ha : Go.Rep.BM B a) (hb : Go.Rep.BM B b) (hB : 1 ≤ B) : Go.Rep.BM (1 + n * (2 * B + 1)) (mulL a b n c) := fun r hr q hq => by
  obtain ⟨x, hx, rfl⟩ := List.mem_map.1 hr
  obtain ⟨y, hy, rfl⟩ := List.mem_map.1 hq
  have hyb := hb_bm (trL_hb (n := n) (c := c) (bm_hb hb hB)) y hy
  have := dotN_hq hyb (ha x hx) hB y.length
  rw [(trL_shp b n c).2 y hy] at this
  unfold dotL
  rw [(trL_shp b n c).2 y hy]
  exact this
theorem sq_tame {k B : Nat} {m : Mat} (h : Shp k k m) (hk : k ≤ 4) (hB : Go.Rep.BM B m) (hB1 : 1 ≤ B) (hBB : B ≤ 6000) : Tame m k := by
  refine tame_of h (bm_hb hB hB1) ?_
  have : 35 ^ k ≤ 1500625 := Nat.le_trans (Nat.pow_le_pow_right (by omega) hk) (by decide)
  have h2 : 35 ^ k * B ≤ 1500625 * 6000 := Nat.mul_le_mul this hBB
  omega
end Go.Lin

namespace Go.Lin
open Go.Lim
/-- The matrix with the unit matrix at its right side. -/
def wideI (m : Mat) (n : Nat) : Mat := (List.range n).map fun i => m.getD i [] ++ (List.replicate n 0).set i 1
theorem wideI_shp {m : Mat} {n : Nat} (hs : Shp n n m) : Shp n (2 * n) (wideI m n) := ⟨by simp [wideI], fun r hr => by
  obtain ⟨i, hi, rfl⟩ := List.mem_map.1 hr
  rw [List.length_append, hs.row (List.mem_range.1 hi), List.length_set, List.length_replicate]; omega⟩
theorem ent_wideI {m : Mat} {n : Nat} (hs : Shp n n m) (i : Nat) (hi : i < n) (j : Nat) (hj : j < 2 * n) : ent (wideI m n) i j = if j < n then ent m i j else if j = n + i then 1 else 0 := by
  have hr := hs.row hi
  have e : (wideI m n).getD i [] = m.getD i [] ++ (List.replicate n 0).set i 1 := by simp [wideI, List.getD_eq_getElem?_getD, hi]
  unfold ent
  rw [e, List.getD_eq_getElem?_getD]
  by_cases h : j < n
  · rw [if_pos h, List.getElem?_append_left (by omega), ← List.getD_eq_getElem?_getD]
  · rw [if_neg h, List.getElem?_append_right (by omega), hr, List.getElem?_set]
    by_cases h2 : i = j - n
    · rw [if_pos h2, if_pos (show j = n + i by omega)]
      simp [show i < n from hi]
    · rw [if_neg h2, if_neg (show ¬ j = n + i by omega)]
      simp [show j - n < n by omega]
theorem wideI_li {m : Mat} {n : Nat} (hs : Shp n n m) : LI n (2 * n) (ent (wideI m n)) := fun y hy i hi => by
  have h1 := hy (n + i) (by omega)
  unfold cmb at h1
  rw [sm_one i hi fun q hq hqi => by
    rw [ent_wideI hs q hq (n + i) (by omega), if_neg (by omega), if_neg (by omega)]; grind] at h1
  rw [ent_wideI hs i hi (n + i) (by omega), if_neg (by omega), if_pos rfl] at h1
  grind
/-- The pivots of the widened matrix are as many as rows. -/
theorem wideI_full {m : Mat} {n : Nat} (hs : Shp n n m) : (redP (wideI m n) (2 * n)).2.length = n := by
  obtain ⟨h1, h2, d, h3⟩ := redP_ok (wideI_shp hs)
  exact (wideI_li hs).full h2 h3
theorem RE.cols {n c c' : Nat} {f g : F2} {d : Rat} (h : RE n c f g d) (hc : c' ≤ c) : RE n c' f g d := by
  induction h with
  | same h => exact .same fun i hi j hj => h i hi j (by omega)
  | swap i k hi hk hik h1 h2 h3 => exact .swap i k hi hk hik (fun j hj => h1 j (by omega)) (fun j hj => h2 j (by omega)) (fun r hr a b j hj => h3 r hr a b j (by omega))
  | scale i a hi ha h1 h3 => exact .scale i a hi ha (fun j hj => h1 j (by omega)) (fun r hr a j hj => h3 r hr a j (by omega))
  | add i k a hi hk hik h1 h3 => exact .add i k a hi hk hik (fun j hj => h1 j (by omega)) (fun r hr a j hj => h3 r hr a j (by omega))
  | trans _ _ ih1 ih2 => exact (ih1).trans (ih2)
/-- Singular: the last pivot lies in the unit matrix. -/
def singP (m : Mat) (n : Nat) : Prop := 0 < n ∧ n ≤ (redP (wideI m n) (2 * n)).2.getD (n - 1) 0
theorem wideI_re {m : Mat} {n : Nat} (hs : Shp n n m) : ∃ d, RE n n (ent m) (ent (redP (wideI m n) (2 * n)).1) d := by
  obtain ⟨h1, h2, d, h3⟩ := redP_ok (wideI_shp hs)
  refine ⟨d, (h3.cols (show n ≤ 2 * n by omega)).congr fun i hi j hj => ?_⟩
  rw [ent_wideI hs i hi j (by omega), if_pos hj]
theorem sing_det {m : Mat} {n : Nat} (hn : n ≤ 4) (hs : Shp n n m) : singP m n ↔ detV m n = 0 := by
  rw [detV_det hn hs]
  obtain ⟨h1, h2, _, h3⟩ := redP_ok (wideI_shp hs)
  obtain ⟨d, hd⟩ := wideI_re hs
  have hfull := wideI_full hs
  have h4 := hd.det_same hn
  have h5 := hd.ne
  obtain ⟨⟨R, p⟩, hS⟩ : ∃ S, redP (wideI m n) (2 * n) = S := ⟨_, rfl⟩
  unfold singP
  rw [hS] at h1 h2 h3 hd hfull h4 ⊢
  dsimp only at h1 h2 h3 hd hfull h4 ⊢
  by_cases h0 : n = 0
  · subst h0
    constructor
    · intro h; omega
    · intro h; exfalso; rw [det_0] at h; grind
  · have hl : n - 1 < p.length := by omega
    have e : p.getD (n - 1) 0 = p[n - 1] := by simp [List.getD_eq_getElem?_getD, hl]
    rw [e]
    constructor
    · rintro ⟨_, hge⟩
      have h6 : det n (ent R) = 0 := det_row0 hn _ (n - 1) (by omega) fun j hj => h2.left (n - 1) hl j (by omega)
      rw [h6] at h4
      rcases Rat.mul_eq_zero.1 h4.symm with h7 | h7
      · exact absurd h7 h5
      · exact h7
    · intro h
      refine ⟨by omega, Classical.byContradiction fun hlt => ?_⟩
      have hc : ∀ i (hi : i < p.length), p[i] < n := fun i hi => by
        by_cases h8 : i = n - 1
        · subst h8; omega
        · have := h2.inc i (n - 1) (by omega) hl; omega
      have h6 : det n (ent R) = 1 := by rw [det_congr (h2.unit hfull hc), det_unit hn]
      rw [h6, h] at h4; grind
/-- What the program's Inverse returns. -/
noncomputable def invL (m : Mat) (n : Nat) : Mat := (redP (wideI m n) (2 * n)).1.map (·.drop n)
theorem invL_shp {m : Mat} {n : Nat} (hs : Shp n n m) : Shp n n (invL m n) := by
  obtain ⟨h1, _⟩ := redP_ok (wideI_shp hs)
  refine ⟨by simp [invL, h1.1], fun r hr => ?_⟩
  obtain ⟨x, hx, rfl⟩ := List.mem_map.1 hr
  rw [List.length_drop, h1.2 x hx]; omega
theorem ent_invL {m : Mat} {n : Nat} (hs : Shp n n m) (i : Nat) (hi : i < n) (j : Nat) : ent (invL m n) i j = ent (redP (wideI m n) (2 * n)).1 i (n + j) := by
  obtain ⟨h1, _⟩ := redP_ok (wideI_shp hs)
  have hil : i < (redP (wideI m n) (2 * n)).1.length := by rw [h1.1]; exact hi
  unfold ent invL
  simp [List.getD_eq_getElem?_getD, hil]
def unitF : F2 := fun i j => if i = j then 1 else 0
theorem nons_unit {m : Mat} {n : Nat} (hs : Shp n n m) (hn : ¬ singP m n) : Eqm n n (ent (redP (wideI m n) (2 * n)).1) unitF := by
  obtain ⟨h1, h2, _, h3⟩ := redP_ok (wideI_shp hs)
  have hfull := wideI_full hs
  unfold singP at hn
  refine h2.unit hfull fun i hi => ?_
  have hl : n - 1 < (redP (wideI m n) (2 * n)).2.length := by omega
  have e : (redP (wideI m n) (2 * n)).2.getD (n - 1) 0 = (redP (wideI m n) (2 * n)).2[n - 1] := by simp [List.getD_eq_getElem?_getD, hl]
  rw [e] at hn
  by_cases h8 : i = n - 1
  · subst h8; omega
  · have := h2.inc i (n - 1) (by omega) hl; omega
theorem sm_split (n : Nat) (f : Nat → Rat) : sm (2 * n) f = sm n f + sm n fun j => f (n + j) := by
  have key : ∀ k, sm (n + k) f = sm n f + sm k fun j => f (n + j) := fun k => by
    induction k with
    | zero => show sm n f = sm n f + 0; grind
    | succ k ih => show sm (n + k) f + f (n + k) = sm n f + (sm k _ + f (n + k)); rw [ih]; grind
  rw [show 2 * n = n + n by omega]; exact key n
/-- A matrix times its inverse. -/
theorem mul_invL {m : Mat} {n : Nat} (hs : Shp n n m) (hn : ¬ singP m n) : Eqm n n (mul n (ent m) (ent (invL m n))) unitF := by
  obtain ⟨h1, h2, d, h3⟩ := redP_ok (wideI_shp hs)
  have hu := nons_unit hs hn
  intro i hi j hj
  have hn0 : Nul n (2 * n) (ent (redP (wideI m n) (2 * n)).1) (fun q => if q < n then ent (invL m n) q j else if q = n + j then -1 else 0) := fun r hr => by
    rw [sm_split]
    have a1 : sm n (fun q => ent (redP (wideI m n) (2 * n)).1 r q * (if q < n then ent (invL m n) q j else if q = n + j then -1 else 0)) = ent (invL m n) r j := by
      rw [sm_one r hr fun q hq hqr => by rw [hu r hr q hq]; unfold unitF; rw [if_neg (Ne.symm hqr)]; grind]
      rw [hu r hr r hr, if_pos hr]; unfold unitF; simp
    have a2 : sm n (fun q => ent (redP (wideI m n) (2 * n)).1 r (n + q) * (if n + q < n then ent (invL m n) (n + q) j else if n + q = n + j then -1 else 0)) = - ent (invL m n) r j := by
      rw [sm_one j hj fun q hq hqj => by rw [if_neg (by omega), if_neg (by omega)]; grind]
      rw [if_neg (by omega), if_pos rfl, ent_invL hs r hr j]; grind
    rw [a1, a2]; grind
  have h5 := (h3.nul _).2 hn0 i hi
  rw [sm_split] at h5
  have a1 : sm n (fun q => ent (wideI m n) i q * (if q < n then ent (invL m n) q j else if q = n + j then -1 else 0)) = mul n (ent m) (ent (invL m n)) i j := sm_congr fun q hq => by
    rw [ent_wideI hs i hi q (by omega), if_pos hq, if_pos hq]
  have a2 : sm n (fun q => ent (wideI m n) i (n + q) * (if n + q < n then ent (invL m n) (n + q) j else if n + q = n + j then -1 else 0)) = - unitF i j := by
    rw [sm_one j hj fun q hq hqj => by rw [if_neg (show ¬ n + q < n by omega), if_neg (show ¬ n + q = n + j by omega)]; grind]
    rw [if_neg (show ¬ n + j < n by omega), if_pos rfl, ent_wideI hs i hi (n + j) (by omega), if_neg (by omega)]
    unfold unitF
    by_cases h : i = j
    · subst h; simp
    · rw [if_neg h, if_neg (show ¬ n + j = n + i by omega)]; grind
  rw [a1, a2] at h5; grind
theorem nul_trivial {m : Mat} {n : Nat} (hs : Shp n n m) (hn : ¬ singP m n) (z : Nat → Rat) (hz : Nul n n (ent m) z) (i : Nat) (hi : i < n) : z i = 0 := by
  obtain ⟨d, hd⟩ := wideI_re hs
  have h1 := (hd.nul z).1 hz i hi
  have hu := nons_unit hs hn
  rw [sm_one i hi fun q hq hqi => by rw [hu i hi q hq]; unfold unitF; rw [if_neg (Ne.symm hqi)]; grind] at h1
  rw [hu i hi i hi] at h1
  unfold unitF at h1; simpa using h1
theorem mul_assoc_sm (n : Nat) (f g h : F2) (i j : Nat) : mul n f (mul n g h) i j = mul n (mul n f g) h i j := by
  unfold mul
  have e1 : sm n (fun k => f i k * sm n fun q => g k q * h q j) = sm n fun k => sm n fun q => f i k * g k q * h q j := sm_congr fun k _ => by
    rw [← sm_mul]; exact sm_congr fun q _ => by grind
  have e2 : sm n (fun q => (sm n fun k => f i k * g k q) * h q j) = sm n fun q => sm n fun k => f i k * g k q * h q j := sm_congr fun q _ => by
    rw [show (sm n fun k => f i k * g k q) * h q j = h q j * sm n fun k => f i k * g k q by grind, ← sm_mul]; exact sm_congr fun k _ => by grind
  rw [e1, e2, sm_comm]
/-- .. on the other side. -/
theorem invL_mul {m : Mat} {n : Nat} (hs : Shp n n m) (hn : ¬ singP m n) : Eqm n n (mul n (ent (invL m n)) (ent m)) unitF := by
  intro i hi j hj
  have h1 := mul_invL hs hn
  have h2 := nul_trivial hs hn (fun q => mul n (ent (invL m n)) (ent m) q j - unitF q j) (fun r hr => by
    have a1 : sm n (fun q => ent m r q * (mul n (ent (invL m n)) (ent m) q j - unitF q j)) = mul n (ent m) (mul n (ent (invL m n)) (ent m)) r j - ent m r j := by
      rw [sm_congr (g := fun q => ent m r q * mul n (ent (invL m n)) (ent m) q j - ent m r q * unitF q j) fun q _ => by grind, sm_sub]
      congr 1
      rw [sm_one j hj fun q hq hqj => by unfold unitF; rw [if_neg hqj]; grind]
      unfold unitF; simp
    rw [a1, mul_assoc_sm]
    have a2 : mul n (mul n (ent m) (ent (invL m n))) (ent m) r j = ent m r j := by
      show (sm n fun q => mul n (ent m) (ent (invL m n)) r q * ent m q j) = _
      rw [sm_congr (g := fun q => unitF r q * ent m q j) fun q hq => by rw [h1 r hr q hq]]
      rw [sm_one r hr fun q hq hqr => by unfold unitF; rw [if_neg (Ne.symm hqr)]; grind]
      unfold unitF; simp
    rw [a2]; grind) i hi
  grind
theorem det_invL {m : Mat} {n : Nat} (hn4 : n ≤ 4) (hs : Shp n n m) (hn : ¬ singP m n) : detV (invL m n) n * detV m n = 1 := by
  have h1 := invL_mul hs hn
  have hsi := invL_shp hs
  rw [detV_det hn4 hsi, detV_det hn4 hs]
  obtain ⟨_, h2, d, h3⟩ := redP_ok hsi (c := n)
  rw [← det_mul hn4 _ _ _ _ d h2 h3, det_congr h1]
  exact det_unit hn4
theorem mulL_unit {a b : Mat} {n : Nat} (ha : Shp n n a) (h : Eqm n n (mul n (ent a) (ent b)) unitF) : mulL a b n n = (List.range n).map fun i => (List.range n).map fun j => if i = j then 1 else 0 := by
  refine (mulL_shp ha.1).ext (m' := (List.range n).map fun i => (List.range n).map fun j => if i = j then 1 else 0) ⟨by simp, fun r hr => by obtain ⟨i, _, rfl⟩ := List.mem_map.1 hr; simp⟩ fun i hi j hj => ?_
  rw [ent_mulL ha i hi j hj, h i hi j hj]
  simp [ent, List.getD_eq_getElem?_getD, hi, hj, unitF]
end Go.Lin

namespace Go.Lin
/-- A matrix of zeros. -/
def zerL (r c : Nat) : Mat := List.replicate r (List.replicate c 0)
theorem zerL_len (r c : Nat) : (zerL r c).length = r := List.length_replicate
theorem zerL_get {r c i : Nat} (h : i < (zerL r c).length) : (zerL r c)[i] = List.replicate c 0 := List.getElem_replicate h
theorem wideI_copy {x : List Rat} {n : Nat} : x ++ (List.replicate (2 * n) (0 : Rat)).drop n = x ++ List.replicate n 0 := by
  rw [List.drop_replicate, show 2 * n - n = n by omega]
theorem wideI_put {x : List Rat} {n i : Nat} (h : x.length = n) : (x ++ List.replicate n (0 : Rat)).set (n + i) 1 = x ++ (List.replicate n 0).set i 1 := by
  rw [List.set_append_right _ _ (by omega), h, show n + i - n = i by omega]
theorem wideI_get {m : Mat} {n i : Nat} (h : i < (wideI m n).length) (hi : i < m.length) : (wideI m n)[i] = m[i] ++ (List.replicate n 0).set i 1 := by
  simp [wideI, hi, List.getD_eq_getElem?_getD]
theorem colsL_sq {m : Mat} {n c : Nat} (h : Shp n c m) (hc : n = 0 → c = 0) : Go.Lin.colsL m = c := by
  by_cases h0 : n = 0
  · have : m = [] := List.eq_nil_of_length_eq_zero (by rw [h.1]; exact h0)
    subst this; rw [hc h0]; rfl
  · exact shpc h (by omega)
end Go.Lin
namespace Go.Proofs.YtjbhcniiioepgaaGreat
open Go.RowKit Go.Rep Go.Lim Go.Lin

/-- What Inverse returns. -/
def InvOut (X : Nat → Bool) (w : World) (m : List (List Rat)) (n : Nat) (e : Ending) (w' : World) : Prop := Ext w w' ∧ ((singP m n ∧ e = .returned (.tuple #[.slice none 0 0, .int .i64 7])) ∨ (¬ singP m n ∧ ∃ u, e = .returned (.tuple #[u, .int .i64 0]) ∧ MC (mk X w') u (invL m n)))

theorem inverse_no (X : Nat → Bool) (w : World) (u : Value) (m : List (List Rat)) (hu : MV (mk X w) u m) (hl : m.length ≤ 1099511627776) (hf : formedB m = false) : Calls Tryz.prog 39 #[u] w (fun e w' => w' = w ∧ e = .returned (.tuple #[.slice none 0 0, .int .i64 6])) := by
  have hfo := formed_any X w u m hu hl
  rw [hf] at hfo
  clear hf
  go_enter Tryz.func39, Tryz.ntmps39
  go_wp2_with fail
  refine hfo.mono ?_
  rintro e w1 ⟨rfl, rfl⟩
  go_wp2_with fail
  go_ret2
  exact ⟨rfl, rfl⟩

set_option maxRecDepth 100000 in
set_option maxHeartbeats 1600000 in
theorem inverse_ok (X : Nat → Bool) (w : World) (u : Value) (m : List (List Rat)) (n : Nat) (hX : HX X w) (hu : MV (mk X w) u m) (hf : formedB m = true) (hnn : m.length = n) (hcc : colsL m = n) (hT : Tame (wideI m n) (2 * n)) : Calls Tryz.prog 39 #[u] w (InvOut X w m n) := by
  obtain ⟨hsh, h96, hc96, _, _⟩ := formedB_shp hf
  rw [hnn, hcc] at hsh
  rw [hnn] at h96
  have hfo := formed_any X w u m hu (by omega)
  rw [hf] at hfo
  have hcol := columns_any X w u m hu
  rw [hcc] at hcol
  have hsh' := hid hsh
  have hnn' := hid hnn
  have hcc' := hid hcc
  have hWs := hid (wideI_shp hsh)
  have hTt := hid hT
  have hIs := hid (invL_shp hsh)
  have hfull := hid (wideI_full hsh)
  have hwg : Hid (∀ i (h : i < (wideI m n).length) (hi : i < m.length), (wideI m n)[i] = m[i] ++ (List.replicate n 0).set i 1) := hid fun i h hi => wideI_get h hi
  have hWc : Hid (colsL (wideI m n) = 2 * n) := hid (colsL_sq (wideI_shp hsh) (by omega))
  have hsg : Hid (singP m n ↔ 0 < n ∧ n ≤ (redP (wideI m n) (2 * n)).2.getD (n - 1) 0) := hid Iff.rfl
  have hiv : Hid (invL m n = (redP (wideI m n) (2 * n)).1.map (·.drop n)) := hid rfl
  obtain ⟨W, hW⟩ : ∃ W, wideI m n = W := ⟨_, rfl⟩
  rw [hW] at hWs hTt hfull hwg hWc hsg hiv
  obtain ⟨ua, uca, rfl, huca, hua⟩ := hu
  have hu : MV (mk X w) (.slice ua m.length uca) m := ⟨ua, uca, rfl, huca, hua⟩
  rw [hnn] at hfo hcol hu ⊢
  have hw2 : wrap64 (2 * (n : Int)) = ((2 * n : Nat) : Int) := by rw [IntWalk.wrap64_in _ (by omega)]; omega
  clear hf hnn hcc hsh huca hua hW hT
  go_enter Tryz.func39, Tryz.ntmps39
  go_wp2_with fail
  refine hfo.mono ?_
  rintro e w1 ⟨rfl, rfl⟩
  go_wp2_with fail
  refine hcol.mono ?_
  rintro e w2 ⟨rfl, rfl⟩
  go_wp2_with fail
  refine (zero_any X w2 n (2 * n) hX (by omega) (by omega)).mono ?_
  rintro e w3 ⟨hE3, ao, cap, hs, rfl, hM3⟩
  rw [List.length_replicate]
  have hlen : Hid (hs.length = n) := hid (by rw [hM3.len]; simp)
  have hhO : Hd ao n := by have := hM3.outer.hd; rw [hlen.out] at this; exact this
  have hX3 := hX.ext hE3
  have hZ3 := hM3.hz hX3
  have hu3 := hM3.old MV.mono hu hE3 (Nat.le_refl _) (fun _ _ h => h)
  obtain ⟨V, hV⟩ : ∃ V, zerL n (2 * n) = V := ⟨_, rfl⟩
  have hVl : Hid (V.length = n) := hid (by rw [← hV]; exact zerL_len _ _)
  have hVg : Hid (∀ i (h : i < V.length), V[i] = List.replicate (2 * n) 0) := hid fun i h => by subst hV; exact zerL_get h
  have hWV : Hid (W.length = V.length) := hid (by rw [hVl.out]; exact hWs.out.1)
  change MO X w2.heap.size _ _ w3 ao cap hs (zerL n (2 * n)) at hM3
  rw [hV, ← mix_zero W V] at hM3
  have hco := copied_any (mz X ao hs) w3 _ m n n hZ3 hu3 hsh'.out hcc'.out (by omega) (by omega)
  clear hfo hcol hu hu3 hV
  go_wp2_with fail
  refine hco.mono ?_
  rintro e w4 ⟨hE4, bo, capb, hs4, rfl, hM4⟩
  have hmc4 := hM4.mc
  rw [hnn'.out] at hmc4 ⊢
  have hM34 := hM3.ext0 hE4
  have hE04 := hE3.trans hE4
  obtain ⟨ba, bca, heq, hbca, hsb⟩ := hmc4
  simp only [Value.slice.injEq] at heq
  obtain ⟨rfl, hx9, rfl⟩ := heq
  clear hx9
  have hhb := hsb.hd
  rw [hnn'.out] at hhb
  obtain ⟨Z, hZe⟩ : ∃ Z, mz X ao hs = Z := ⟨_, rfl⟩
  have hZ' := hid hZe
  rw [hZe] at hsb hZ3
  clear hco hM3 hM4 hZe
  go_wp2_with fail
  go_loopw [31] (fun k wr => ∃ (i : Nat), k = .int .i64 i ∧ i ≤ n ∧ MO X w2.heap.size 33 31 wr ao cap hs (mix W V i) ∧ Sl RC 1 (mk Z wr) bo m ∧ Ext w2 wr) (fun k _ => n - (intOf k).toNat)
  case atStart => exact ⟨0, rfl, Nat.zero_le _, hM34, hsb, hE04⟩
  case round =>
    obtain ⟨i, rfl, hi, hM, hsb, hE⟩ := hrel
    by_cases hlt : i < n
    · have him : i < m.length := by rw [hnn'.out]; exact hlt
      obtain ⟨a1, c1, hX1, hc1, hcl1, hq1⟩ := hsb.row i him
      have k00 := hc1.out noY wr (ExtX.refl _) rfl
      have hxl : Hid (m[i].length = n) := hid (hsh'.out.2 _ (List.getElem_mem _))
      have hiV : i < V.length := by rw [hVl.out]; exact hlt
      have hiW : i < W.length := by rw [hWV.out]; exact hiV
      have hWi := hid (hwg.out i hiW him)
      have hVi := hid (hVg.out i hiV)
      obtain ⟨x, hx⟩ : ∃ x, m[i] = x := ⟨_, rfl⟩
      rw [hx] at k00 hcl1 hq1 hxl hWi
      rw [hxl.out] at k00 hcl1
      have hh1 : Hd a1 n := by have := hq1.hd; rw [hxl.out] at this; exact this
      have hih : i < hs.length := by rw [hlen.out]; exact hlt
      have hmi : i < (mix W V i).length := by rw [mix_len hWV.out]; exact hiW
      have hmg : Hid ((mix W V i)[i] = List.replicate (2 * n) 0) := hid (by rw [mix_getElem hWV.out, if_neg (by omega)]; exact hVi.out)
      have hms : Hid ((mix W V i).set i (x ++ (List.replicate n (0 : Rat)).set i 1) = mix W V (i + 1)) := hid (by rw [← hWi.out]; exact mix_set hWV.out hiW)
      obtain ⟨a, na, cr, hhd⟩ : ∃ a na cr, hs[i] = (a, na, cr) := ⟨_, _, _, rfl⟩
      have hna : na = 2 * n := by
        have := hM.rlen i hih hmi
        rw [hhd, hmg.out, List.length_replicate] at this; exact this
      have hR := hM.row i hih hmi
      rw [hmg.out] at hR
      simp only [hhd] at hR
      have hz1 := fun k (hk : ob a k = true) => hM.mz_sub hih k (by rw [hhd]; exact hk)
      have hsp := fun k (hk : ob a k = true) => hM.sep i hih k (by rw [hhd]; exact hk)
      have hun : Hid (un (cut (mz X ao hs) a) a = Z) := hid (by rw [un_cut hz1]; exact hZ'.out)
      have hda : Hd a na := by have := hR.hd; rw [List.length_replicate, ← hna] at this; exact this
      have hna' := hid hna
      have y1 : wr.cell? (adr ao i) = some (.slice a na cr) := by
        have := (hM.hdr i hih).1
        rw [hhd] at this; exact this
      have haob : Hid (ob a (adr ao i).block = false) := hid (by
        cases hb : ob a (adr ao i).block
        · rfl
        · have h1 := (hsp _ hb).2
          obtain ⟨b0, o0, rfl⟩ := hhO (by omega)
          simp [ob, adr] at h1)
      have hhd' := hid hhd
      have hRl : Hid ((List.replicate (2 * n) (0 : Rat)).length = na) := hid (by rw [hna]; exact List.length_replicate)
      have hqz : Sl QC 3 (mk (un (cut (mz X ao hs) a) a) wr) a1 x := by rw [hun.out]; exact hq1
      clear hc1 hx hhd hna
      obtain ⟨wo, hwo⟩ : ∃ wo, wo = wr := ⟨_, rfl⟩
      subst hwo
      go_wp2_with (first | (with_reducible refine up_ix1 slRats (by omega) (by assumption) ?_) | (refine st_copyTo slRat QC.elem x rfl hRl.out rfl hxl.out hR hqz (by rw [hna'.out]; omega) (by omega) ?_; intro w5 hO5 hE5; have y5 := hE5.cellY y1 haob.out))
      have hxi : x ++ List.drop n (List.replicate (2 * n) (0 : Rat)) = x ++ List.replicate n 0 := wideI_copy
      rw [hxi] at hO5
      have hzz : ∀ k, ob a k = true → Z k = true := fun k hk => by rw [← hZ'.out]; exact hz1 k hk
      have hxr : Hid ((x ++ List.replicate n (0 : Rat)).length = na) := hid (by rw [List.length_append, List.length_replicate, hxl.out, hna'.out]; omega)
      have hM5 := hM.upd hih (l := x ++ List.replicate n 0) (show ExtX (ob hs[i].1) wo w5 by rw [hhd'.out]; exact hE5) (fun hi' => by rw [hmg.out, List.length_replicate, hxr.out, hna'.out]) (by rw [hhd'.out]; exact hO5)
      have hsb5 := hsb.mono RC.mono (mk_mono hE5 hzz)
      have hE05 := hM.ext_from hE (Nat.le_refl _) (ExtX.row hih (show ExtX (ob hs[i].1) wo w5 by rw [hhd'.out]; exact hE5))
      have hput : Hid ((x ++ List.replicate n (0 : Rat)).set (n + i) 1 = x ++ (List.replicate n 0).set i 1) := hid (wideI_put hxl.out)
      have hni : n + i < (x ++ List.replicate n (0 : Rat)).length := by rw [hxr.out, hna'.out]; omega
      have hZ5 : HX Z w5 := by
        have h1 := hM5.hz (hX.ext hE05)
        rw [hZ'.out] at h1; exact h1
      have hEd : Ext w5 w5.drew := (ExtX.refl w5).drew
      obtain ⟨L, hL⟩ : ∃ L, x ++ List.replicate n (0 : Rat) = L := ⟨_, rfl⟩
      rw [hL] at hO5 hM5 hxr hput hni
      obtain ⟨L2, hL2⟩ : ∃ L2, x ++ (List.replicate n (0 : Rat)).set i 1 = L2 := ⟨_, rfl⟩
      rw [hL2] at hput hms
      have hL2l : Hid (L2.length = L.length) := hid (by rw [← hput.out, List.length_set])
      obtain ⟨g, o, hg⟩ : ∃ g o, adr a ((n + i) * 3) = ⟨g, o, none⟩ := ⟨_, _, rfl⟩
      have ew : IntKind.i64.wrap ((n : Int) + (i : Int)) = (n : Int) + (i : Int) := IntWalk.i64_in _ (by omega)
      have i2 : ∀ W, (Instr.indexAt 33 (.slice a na cr) (.int .i64 ((n : Int) + (i : Int)))).run Tryz.prog W = .ok (.pointer (some ⟨g, o, none⟩)) W := by
        rw [← hg, show (n : Int) + (i : Int) = ((n + i : Nat) : Int) by omega]; exact run_indexAt_adr slRat a na cr .i64 (n + i) hda (by rw [hna'.out]; omega)
      have i1 : ∀ W, (Instr.indexAt 23 (.slice ao n cap) (.int .i64 (i : Int))).run Tryz.prog W = .ok (.pointer (some (adr ao i))) W := run_ix1 slRats ao n cap .i64 i hhO (by omega) rfl
      have hg' := hid hg
      have hS : Hid (∀ Y W', ExtX Y w5.drew W' → Y (adr ao i).block = false → W'.cell? (adr ao i) = some (.slice a na cr)) := hid fun Y W' h hy1 => h.cellY (hEd.cell y5) hy1
      have k20 := hS.out noY w5.drew (ExtX.refl _) rfl
      have hO5d := hO5.ext0 QC.elem hEd
      have qf := qfrom Z w5.drew 1 (hZ5.ext hEd) (by omega) (by omega)
      have h1r : ((1 : Int) : Rat) = 1 := by decide +kernel
      rw [h1r] at qf
      have hun' : Hid (un (cut (mz X ao hs) a) a = Z) := hun
      clear h1r hxi hL hL2 hg y1 y5 hR hqz hq1 k00 hM hsb
      go_region_held3 (fun w' => w'.cell? (adr ao i) = some (.slice a na cr))
        (first | exact hS.out noY _ t1 rfl | exact hS.out (ob a) _ ((ExtX.of t1).trans hset.2) haob.out | go_keep)
        ((go_at_call 97; (with_reducible refine qf.mono ?_); rintro ee w6 ⟨t1, u6, rfl, hu6⟩; obtain ⟨s6, a6, n6, c6, d6, k6, e6, rfl⟩ := hu6.shape; have hO6 := hO5d.ext0 QC.elem t1; obtain ⟨_, v0, v1, v2, _, ⟨g0, f0⟩, ⟨g1, f1⟩, ⟨g2, f2⟩, _⟩ := hO6.cell3 (n + i) hni hg'.out; have hset := hO6.set3 tyRat QC.elem (n + i) hni hg'.out (v0 := .bool s6) (v1 := .slice a6 n6 c6) (v2 := .slice d6 k6 e6) (x := 1) (by rw [hun'.out]; exact hu6)))
      obtain ⟨q1, q2⟩ := hset
      rw [hput.out] at q1
      obtain ⟨w8, hw8⟩ : ∃ w8, ((w6.setCell ⟨g, o, none⟩ (.bool s6)).setCell ⟨g, o + 1, none⟩ (.slice a6 n6 c6)).setCell ⟨g, o + 2, none⟩ (.slice d6 k6 e6) = w8 := ⟨_, rfl⟩
      rw [hw8] at q1 q2 ⊢
      have q2' : ExtX (ob hs[i].1) w6 w8 := by rw [hhd'.out]; exact q2
      have hM6 := hM5.ext0 (hEd.trans t1)
      have hM7 := hM6.upd hih (l := L2) q2' (fun hi' => by rw [List.getElem_set_self]; exact hL2l.out) (by rw [hhd'.out]; exact q1)
      rw [List.set_set, hms.out] at hM7
      have hs8 := (hsb5.mono RC.mono (mk_ext (hEd.trans t1))).mono RC.mono (mk_mono q2 hzz)
      have hE8 := hM6.ext_from (hE05.trans (hEd.trans t1)) (Nat.le_refl _) (ExtX.row hih q2')
      clear k20 g0 g1 g2 f0 f1 f2 i1 i2 hw8 ew
      go_wp2_with fail
      go_roundw
      case rel => exact ⟨i + 1, by go_num, by omega, hM7, hs8, hE8⟩
      case measure => simp [intOf]; omega
    · have hin : i = n := by omega
      subst hin
      rw [mix_full (by rw [hWs.out.1]; exact Nat.le_refl _) (by rw [hVl.out]; exact Nat.le_refl _)] at hM
      go_wp2_with fail
      refine (mreduce_any X w2.heap.size wr ao cap i (2 * i) hs W (hX.ext hE) hM hWs.out hWc.out (by omega) (by omega) hTt.out).mono ?_
      rintro ee w7 ⟨hE7, po, pc, hs', rfl, hmb, hM7, hP7⟩
      rw [hfull.out]
      have hE07 := hM.ext_from hE (Nat.le_refl _) hE7
      have hmc7 := MC.mono _ _ _ _ (mk_sub (X := X) fun k _ hk => un_left hk) hM7.mc
      have hRs := hid (redP_ok hWs.out).1
      obtain ⟨⟨R, p⟩, hRp⟩ : ∃ S, redP W (2 * i) = S := ⟨_, rfl⟩
      rw [hRp] at hfull hiv hsg hRs hmc7 hP7
      dsimp only at hfull hiv hsg hRs hmc7 hP7
      rw [hRs.out.1] at hmc7
      have hX7 := hX.ext hE07
      have hdP : Hd po i := by have := hP7.hd; rw [hfull.out] at this; exact this
      have hpe : Hid (∀ h : i - 1 < p.length, p.getD (i - 1) 0 = p[i - 1]) := hid fun h => by simp [List.getD_eq_getElem?_getD, h]
      have hps : ∀ h : i - 1 < p.length, w7.cell? (adr po (i - 1)) = some (.int .i64 (p[i - 1] : Int)) := fun h => (hP7.sl (NatIn.elem _)).nat (i - 1) h
      have hps' := hid hps
      obtain ⟨w2, hw2'⟩ : ∃ x, x = w2 := ⟨_, rfl⟩
      subst hw2'
      clear hps hM34 hsb hM hM7 hw2 hRp hP7
      by_cases hsing : singP m i
      · obtain ⟨h0, hge⟩ := hsg.out.1 hsing
        have hpl : i - 1 < p.length := by rw [hfull.out]; omega
        rw [hpe.out hpl] at hge
        have c9 := hps'.out hpl
        have h0i : (0 : Int) < (i : Int) := by omega
        have hgi : (i : Int) ≤ (p[i - 1] : Int) := by omega
        obtain ⟨q, hq⟩ : ∃ q, (p[i - 1] : Int) = q := ⟨_, rfl⟩
        rw [hq] at c9 hgi
        have ew : wrap64 ((i : Int) - 1) = (i : Int) - 1 := IntWalk.wrap64_in _ (by omega)
        have i3 : ∀ W, (Instr.indexAt 22 (.slice po i pc) (.int .i64 ((i : Int) - 1))).run Tryz.prog W = .ok (.pointer (some (adr po (i - 1)))) W := run_ix1 slInt po i pc .i64 (i - 1) hdP (by omega) (by omega)
        clear hq hge h0 hE7
        go_wp2_with fail
        go_ret2
        exact ⟨hE07, .inl ⟨hsing, rfl⟩⟩
      · have hcase : (¬ (0 : Int) < (i : Int)) ∨ ((0 : Int) < (i : Int) ∧ ∃ q : Int, w7.cell? (adr po (i - 1)) = some (.int .i64 q) ∧ ¬ (i : Int) ≤ q) := by
          by_cases h0 : i = 0
          · exact .inl (by omega)
          · have hpl : i - 1 < p.length := by rw [hfull.out]; omega
            refine .inr ⟨by omega, _, hps'.out hpl, fun hle => hsing (hsg.out.2 ⟨by omega, ?_⟩)⟩
            rw [hpe.out hpl]; omega
        have hns := hid hsing
        have hz7 := zero_any X w7 i i hX7 (by omega) (by omega)
        have ew : wrap64 ((i : Int) - 1) = (i : Int) - 1 ∨ i = 0 := by
          by_cases h0 : i = 0
          · exact .inr h0
          · exact .inl (IntWalk.wrap64_in _ (by omega))
        have i3' : Hid (0 < i → ∀ W, (Instr.indexAt 22 (.slice po i pc) (.int .i64 ((i : Int) - 1))).run Tryz.prog W = .ok (.pointer (some (adr po (i - 1)))) W) := hid fun h => run_ix1 slInt po i pc .i64 (i - 1) hdP (by omega) (by omega)
        clear hsing hE7
        rcases hcase with h0 | ⟨h0, q, c9, hgi⟩
        case' inl => clear ew
        case' inr =>
          have ew : wrap64 ((i : Int) - 1) = (i : Int) - 1 := ew.resolve_right (by omega)
          have i3 := i3'.out (by omega)
        all_goals
          go_wp2_with fail
          refine hz7.mono ?_
          rintro ee w8 ⟨hE8, ao2, cap2, hs2, rfl, hM8⟩
          rw [List.length_replicate]
          have hlen2 : Hid (hs2.length = i) := hid (by rw [hM8.len]; simp)
          have hhO2 : Hd ao2 i := by have := hM8.outer.hd; rw [hlen2.out] at this; exact this
          have hmc8 := hM8.old MC.mono hmc7 hE8 (Nat.le_refl _) (fun _ _ h => h)
          obtain ⟨ra, rca, heq, hrca, hsr⟩ := hmc8
          simp only [Value.slice.injEq] at heq
          obtain ⟨rfl, hx9, rfl⟩ := heq
          clear hx9
          obtain ⟨D, hD⟩ : ∃ D, invL m i = D := ⟨_, rfl⟩
          have hDs := hid (hD ▸ hIs.out)
          have hiv2 := hid (hD ▸ hiv.out)
          have hD' := hid hD
          obtain ⟨U, hU⟩ : ∃ U, zerL i i = U := ⟨_, rfl⟩
          have hUl : Hid (U.length = i) := hid (by rw [← hU]; exact zerL_len _ _)
          have hUg : Hid (∀ k (h : k < U.length), U[k] = List.replicate i 0) := hid fun k h => by subst hU; exact zerL_get h
          have hDU : Hid (D.length = U.length) := hid (by rw [hUl.out]; exact hDs.out.1)
          change MO X w7.heap.size _ _ w8 ao2 cap2 hs2 (zerL i i) at hM8
          rw [hU, ← mix_zero D U] at hM8
          have hE08 := hE07.trans hE8
          obtain ⟨Y, hYe⟩ : ∃ Y, mz X ao2 hs2 = Y := ⟨_, rfl⟩
          have hY' := hid hYe
          rw [hYe] at hsr
          clear hU hYe hD hz7
          go_wp2_with fail
          go_loopw [70] (fun k wr => ∃ (j : Nat), k = .int .i64 j ∧ j ≤ i ∧ MO X w7.heap.size 33 31 wr ao2 cap2 hs2 (mix D U j) ∧ Sl RC 1 (mk Y wr) ao R ∧ Ext w2 wr) (fun k _ => i - (intOf k).toNat)
          case atStart => exact ⟨0, rfl, Nat.zero_le _, hM8, hsr, hE08⟩
          case round =>
            obtain ⟨j, rfl, hj, hM, hsr, hE⟩ := hrel
            by_cases hlj : j < i
            · have hjR : j < R.length := by rw [hRs.out.1]; exact hlj
              obtain ⟨a1, c1, hX1, hc1, hcl1, hq1⟩ := hsr.row j hjR
              have k00 := hc1.out noY wr (ExtX.refl _) rfl
              have hxl : Hid (R[j].length = 2 * i) := hid (hRs.out.2 _ (List.getElem_mem _))
              have hjU : j < U.length := by rw [hUl.out]; exact hlj
              have hjD : j < D.length := by rw [hDU.out]; exact hjU
              have hDj : Hid (D[j] = R[j].drop i) := hid (by simp [hiv2.out])
              have hUj := hid (hUg.out j hjU)
              obtain ⟨x, hx⟩ : ∃ x, R[j] = x := ⟨_, rfl⟩
              rw [hx] at k00 hcl1 hq1 hxl hDj
              rw [hxl.out] at k00 hcl1
              obtain ⟨n2, hn2⟩ : ∃ n2, 2 * i = n2 := ⟨_, rfl⟩
              have hn2' := hid hn2
              rw [hn2] at k00 hcl1
              have hjh : j < hs2.length := by rw [hlen2.out]; exact hlj
              have hmj : j < (mix D U j).length := by rw [mix_len hDU.out]; exact hjD
              have hmg : Hid ((mix D U j)[j] = List.replicate i 0) := hid (by rw [mix_getElem hDU.out, if_neg (by omega)]; exact hUj.out)
              have hms : Hid ((mix D U j).set j (x.drop i) = mix D U (j + 1)) := hid (by rw [← hDj.out]; exact mix_set hDU.out hjD)
              obtain ⟨a, na, cr, hhd⟩ : ∃ a na cr, hs2[j] = (a, na, cr) := ⟨_, _, _, rfl⟩
              have hna : na = i := by
                have := hM.rlen j hjh hmj
                rw [hhd, hmg.out, List.length_replicate] at this; exact this
              have hR := hM.row j hjh hmj
              rw [hmg.out] at hR
              simp only [hhd] at hR
              have hz1 := fun k (hk : ob a k = true) => hM.mz_sub hjh k (by rw [hhd]; exact hk)
              have hsp := fun k (hk : ob a k = true) => hM.sep j hjh k (by rw [hhd]; exact hk)
              have hun : Hid (un (cut (mz X ao2 hs2) a) a = Y) := hid (by rw [un_cut hz1]; exact hY'.out)
              have y1 : wr.cell? (adr ao2 j) = some (.slice a na cr) := by
                have := (hM.hdr j hjh).1
                rw [hhd] at this; exact this
              have haob : Hid (ob a (adr ao2 j).block = false) := hid (by
                cases hb : ob a (adr ao2 j).block
                · rfl
                · have h1 := (hsp _ hb).2
                  obtain ⟨b0, o0, rfl⟩ := hhO2 (by omega)
                  simp [ob, adr] at h1)
              have hhd' := hid hhd
              have hna' := hid hna
              have hRl : Hid ((List.replicate i (0 : Rat)).length = na) := hid (by rw [hna]; exact List.length_replicate)
              have hq2 := hq1.sub i n2 c1 (by omega) (by omega) (by rw [hxl.out]; omega)
              rw [List.take_of_length_le (by rw [hxl.out]; omega)] at hq2
              have f1 : ∀ W, (Instr.sliceAt 33 (.slice a1 n2 c1) (some (.int .i64 (i : Int))) none none).run Tryz.prog W = .ok (.slice (subAddr a1 i c1 3) (n2 - i) (c1 - i)) W := run_slice_i slRat n2 c1 .i64 i (by omega) hcl1
              rw [show n2 - i = i by omega] at f1
              obtain ⟨sa, hsa⟩ : ∃ sa, subAddr a1 i c1 3 = sa := ⟨_, rfl⟩
              rw [hsa] at f1 hq2
              obtain ⟨sc, hsc⟩ : ∃ sc, c1 - i = sc := ⟨_, rfl⟩
              rw [hsc] at f1
              obtain ⟨xd, hxd⟩ : ∃ xd, x.drop i = xd := ⟨_, rfl⟩
              rw [hxd] at hq2 hms
              have hxdl : Hid (xd.length = i) := hid (by rw [← hxd, List.length_drop, hxl.out]; omega)
              have hqz : Sl QC 3 (mk (un (cut (mz X ao2 hs2) a) a) wr.drew) sa xd := by rw [hun.out]; exact hq2
              have i1 : ∀ W, (Instr.indexAt 23 (.slice ao2 i cap2) (.int .i64 (j : Int))).run Tryz.prog W = .ok (.pointer (some (adr ao2 j))) W := run_ix1 slRats ao2 i cap2 .i64 j hhO2 (by omega) rfl
              have hRd := hR.ext0 QC.elem (ExtX.refl (Y := noY) wr).drew
              have hSa : Hid (∀ Y2 W', ExtX Y2 wr.drew W' → Y2 (adr ao2 j).block = false → W'.cell? (adr ao2 j) = some (.slice a na cr)) := hid fun Y2 W' h hy1 => (((ExtX.refl wr).drew).trans h).cellY y1 hy1
              have k20 := hSa.out noY wr.drew (ExtX.refl _) rfl
              clear hx hc1 hhd hna hn2 hsa hsc hxd hR hq1 hq2
              obtain ⟨wo, hwo⟩ : ∃ wo, wo = wr := ⟨_, rfl⟩
              subst hwo
              go_wp2_with (with_reducible refine up_ix1 slRats (by omega) (by assumption) ?_)
              go_region_held3 (fun w' => w'.cell? (adr ao2 j) = some (.slice a na cr))
                (first | exact hSa.out noY _ (ExtX.refl _) rfl | exact hSa.out (ob a) _ hE5 haob.out | go_keep)
                (first | (refine step_copyTo rfl (by rfl) slRat QC.elem xd rfl hRl.out rfl hxdl.out hRd hqz (by rw [hna'.out]; exact Nat.le_refl _) (by omega) ?_; intro w5 hO5 hE5))
              have hxi : xd ++ List.drop i (List.replicate i (0 : Rat)) = xd := by rw [List.drop_replicate, Nat.sub_self, List.replicate_zero, List.append_nil]
              rw [hxi] at hO5
              have hzz : ∀ k, ob a k = true → Y k = true := fun k hk => by rw [← hY'.out]; exact hz1 k hk
              have hEr : ExtX (ob hs2[j].1) wo w5 := by rw [hhd'.out]; exact (ExtX.of (ExtX.refl wo).drew).trans hE5
              have hM5 := hM.upd hjh (l := xd) hEr (fun hi' => by rw [hmg.out, List.length_replicate, hxdl.out]) (by rw [hhd'.out]; exact hO5)
              rw [hms.out] at hM5
              have hs5 := (hsr.mono RC.mono (mk_ext (ExtX.refl wo).drew)).mono RC.mono (mk_mono hE5 hzz)
              have hE05 := hM.ext_from hE (by have := hE07.size; omega) (ExtX.row hjh hEr)
              clear k00 k20 y1 f1 i1 hRd hqz
              go_wp2_with fail
              go_roundw
              case rel => exact ⟨j + 1, by go_num, by omega, hM5, hs5, hE05⟩
              case measure => simp [intOf]; omega
            · have hji : j = i := by omega
              subst hji
              rw [mix_full (by rw [hDs.out.1]; exact Nat.le_refl _) (by rw [hUl.out]; exact Nat.le_refl _)] at hM
              have hmc := hM.mc
              rw [hDs.out.1, ← hD'.out] at hmc
              go_wp2_with fail
              go_ret2
              exact ⟨hE, .inr ⟨hns.out, _, rfl, hmc⟩⟩
end Go.Proofs.YtjbhcniiioepgaaGreat

namespace Go.Lin
open Go.Lim
/-- The matrix with a column at its right side. -/
def wideB (m : Mat) (b : List Rat) (n : Nat) : Mat := (List.range n).map fun i => m.getD i [] ++ [b.getD i 0]
theorem wideB_shp {m : Mat} {b : List Rat} {n c : Nat} (hs : Shp n c m) : Shp n (c + 1) (wideB m b n) := ⟨by simp [wideB], fun r hr => by
  obtain ⟨i, hi, rfl⟩ := List.mem_map.1 hr
  rw [List.length_append, hs.row (List.mem_range.1 hi)]; rfl⟩
theorem wideB_get {m : Mat} {b : List Rat} {n i : Nat} (h : i < (wideB m b n).length) (hi : i < m.length) (hb : i < b.length) : (wideB m b n)[i] = m[i] ++ [b[i]] := by
  simp [wideB, hi, hb, List.getD_eq_getElem?_getD]
theorem ent_wideB {m : Mat} {b : List Rat} {n c : Nat} (hs : Shp n c m) : Eqm n (c + 1) (ent (wideB m b n)) (wideF c (ent m) fun i => b.getD i 0) := fun i hi j hj => by
  have hr := hs.row hi
  have e : (wideB m b n).getD i [] = m.getD i [] ++ [b.getD i 0] := by simp [wideB, List.getD_eq_getElem?_getD, hi]
  show ((wideB m b n).getD i []).getD j 0 = _
  unfold wideF
  rw [e, List.getD_eq_getElem?_getD]
  by_cases h : j = c
  · rw [if_pos h, List.getElem?_append_right (by omega), hr]; subst h; simp
  · rw [if_neg h, List.getElem?_append_left (by omega), ← List.getD_eq_getElem?_getD]; rfl
theorem eN_nil (k : Nat) : eN [] k = ([], [], false) := by
  induction k with
  | zero => rfl
  | succ k ih => unfold eN; rw [ih]; rfl
theorem redP_nil (k : Nat) : redP [] k = ([], []) := by unfold redP; rw [eN_nil]; rfl
/-- The program's number of columns of a matrix without rows is 0. -/
theorem redP_cols {n c : Nat} {m : Mat} (hs : Shp n c m) (c' : Nat) (h : 0 < n → c' = c) : redP m c' = redP m c := by
  by_cases h0 : n = 0
  · have : m = [] := List.eq_nil_of_length_eq_zero (by rw [hs.1]; exact h0)
    subst this; rw [redP_nil, redP_nil]
  · rw [h (by omega)]
theorem tame_cols {n c : Nat} {m : Mat} (hs : Shp n c m) (c' : Nat) (h : 0 < n → c' = c) (hT : Tame m c) : Tame m c' := by
  by_cases h0 : n = 0
  · have : m = [] := List.eq_nil_of_length_eq_zero (by rw [hs.1]; exact h0)
    subst this
    obtain ⟨B, h1, h2, _⟩ := hT
    have h3 := h2 0 (Nat.zero_le _)
    rw [eN_nil] at h3
    refine ⟨B, h1, fun j _ => by rw [eN_nil]; exact h3, fun t ht => ?_⟩
    rw [eN_nil] at ht ⊢
    have : t = 0 := by simpa using ht
    subst this; exact h3
  · rw [h (by omega)]; exact hT
/-- The first i pivots' unknowns are written. -/
def sN (R : Mat) (p : List Nat) (c : Nat) : Nat → List Rat
  | 0 => List.replicate c 0
  | i + 1 => (sN R p c i).set (p.getD i 0) (ent R i c)
theorem sN_len (R : Mat) (p : List Nat) (c i : Nat) : (sN R p c i).length = c := by
  induction i with
  | zero => exact List.length_replicate
  | succ i ih => show ((sN R p c i).set _ _).length = c; rw [List.length_set, ih]
theorem sN_get {n c : Nat} {R : Mat} {p : List Nat} (hr : Rref n (c + 1) (ent R) p) (i : Nat) (hi : i ≤ p.length) (x : Nat) (hx : x < c) : (sN R p c i).getD x 0 = match p.findIdx? (· == x) with | some k => if k < i then ent R k c else 0 | none => 0 := by
  induction i with
  | zero =>
    show (List.replicate c (0 : Rat)).getD x 0 = _
    have : (List.replicate c (0 : Rat)).getD x 0 = 0 := by simp [List.getD_eq_getElem?_getD, hx]
    rw [this]; cases p.findIdx? (· == x) <;> simp
  | succ i ih =>
    have hip : i < p.length := by omega
    have hpi : p.getD i 0 = p[i] := by simp [List.getD_eq_getElem?_getD, hip]
    show ((sN R p c i).set (p.getD i 0) (ent R i c)).getD x 0 = _
    rw [hpi, List.getD_eq_getElem?_getD, List.getElem?_set, sN_len]
    by_cases h : p[i] = x
    · rw [if_pos h, if_pos (by omega), ← h, hr.idx i hip]; simp
    · rw [if_neg h, ← List.getD_eq_getElem?_getD, ih (by omega)]
      cases hf : p.findIdx? (· == x) with
      | none => rfl
      | some k =>
        have hk := List.findIdx?_eq_some_iff_getElem.1 hf
        obtain ⟨hk1, hk2, _⟩ := hk
        have hki : k ≠ i := by rintro rfl; exact h (by simpa using hk2)
        dsimp only
        by_cases h2 : k < i
        · rw [if_pos h2, if_pos (by omega)]
        · rw [if_neg h2, if_neg (by omega)]
/-- What Solve returns. -/
def solL (R : Mat) (p : List Nat) (c : Nat) : List Rat := sN R p c p.length
theorem solL_get {n c : Nat} {R : Mat} {p : List Nat} (hr : Rref n (c + 1) (ent R) p) (x : Nat) (hx : x < c) : (solL R p c).getD x 0 = solX (ent R) p c x := by
  unfold solL solX
  rw [sN_get hr _ (Nat.le_refl _) x hx]
  cases hf : p.findIdx? (· == x) with
  | none => rfl
  | some k =>
    obtain ⟨hk1, _⟩ := List.findIdx?_eq_some_iff_getElem.1 hf
    dsimp only
    rw [if_pos hk1]
end Go.Lin
