/- Parts of a proof: each theorem states what it proves, and its conditions. -/
import Derived.Test.YtnnpfhoigmegcaaGreatFlJ
import Derived.Deep.RegionHeld3
namespace Go.Lin
open Go.Lim Go.Rep
theorem sgn_lt {q : Rat} : q.num.sign < 0 ↔ q < 0 := by
  constructor
  · intro h
    have h1 : q.num < 0 := by
      rcases Int.lt_trichotomy q.num 0 with h1 | h1 | h1
      · exact h1
      · rw [h1] at h; exact absurd h (by decide)
      · rw [Int.sign_eq_one_of_pos h1] at h; exact absurd h (by decide)
    apply Classical.byContradiction
    intro h2
    have := Rat.num_nonneg.2 (show 0 <= q by grind)
    omega
  · intro h
    have h1 : q.num < 0 := by
      apply Classical.byContradiction
      intro h2
      have := Rat.num_nonneg.1 (show 0 <= q.num by omega)
      grind
    rw [Int.sign_eq_neg_one_of_neg h1]; decide
theorem absR_hq {q : Rat} : hq (absR q) <= hq q := by
  unfold absR
  split
  · exact Nat.le_of_eq (hq_neg q)
  · exact Nat.le_refl _
end Go.Lin
namespace Go.Proofs.YtnnpfhoigmegcaaGreat
open Go.RowKit Go.Rep Go.Lim Go.Lin
set_option maxRecDepth 100000 in
theorem qabs (X : Nat -> Bool) (w : World) (u : Value) (x : Rat) (hX : HX X w) (hu : QV (mk X w) u x) : Calls Tryz.prog 185 #[u] w (ROut X w QC (absR x)) := by
  have hlx := hid hu.hq
  obtain ⟨s1, a1, n1, c1, d1, k1, e1, rfl⟩ := hu.shape
  obtain ⟨W, hW, hE, b0, b1, hz⟩ := boxes2 w #[.bool s1, .slice a1 n1 c1, .slice d1 k1 e1] #[.bool false, .slice none 0 0, .slice none 0 0] 41 41
  have hXW : HX (hidB X w.heap.size 2) W := hX.boxes hz
  have hu1 := QV.mono _ _ _ _ (le_boxes (nb := 2) hE) hu
  obtain ⟨b, hb⟩ : ∃ b, w.heap.size = b := ⟨_, rfl⟩
  have hbw : w.heap.size <= b := by omega
  rw [hb] at b0 b1 hz hXW hu1
  have k00 := b0.cell 0 rfl
  have k01 := b0.cell 1 rfl
  have k02 := b0.cell 2 rfl
  have hsg := qsign (hidB X b 2) W _ x hXW hu1
  have hneg := hid fun w' u y (h : Ext W w') (h1 : QV (mk (hidB X b 2) w') u y) => qneg (hidB X b 2) w' u y (hXW.ext h) h1
  have hu2 := hid fun w' (h : Ext W w') => mkx QV.mono hu1 h
  have hqn : Hid (hq (-x) <= 68719476736) := hid (by rw [hq_neg]; exact hlx.out)
  have ha1 := hid fun (h : x < 0) => (by unfold absR; rw [if_pos h] : absR x = -x)
  have ha2 := hid fun (h : ¬ x < 0) => (by unfold absR; rw [if_neg h] : absR x = x)
  clear hu hu1
  by_cases hx0 : x < 0
  · have hd := sgn_lt.2 hx0
    rw [ha1.out hx0]
    obtain ⟨sg, hsg'⟩ : ∃ sg, x.num.sign = sg := ⟨_, rfl⟩
    rw [hsg'] at hsg hd
    have hd' : decide (sg < 0) = true := decide_eq_true hd
    clear hsg' hx0 ha1 ha2
    go_enter Tryz.func185, Tryz.ntmps185
    go_wp2_with (first | (go_at_call 125; refine hsg.mono ?_; rintro ee w1 ⟨t1, rfl⟩; have bb0 := b0.ext0 t1; have l00 := bb0.cell 0 rfl; have l01 := bb0.cell 1 rfl; have l02 := bb0.cell 2 rfl) | (go_at_call 237; (with_reducible refine (hneg.out w1 _ x t1 (hu2.out w1 t1)).mono ?_); rintro ee w2 ⟨t2, u2, rfl, hu3⟩; obtain ⟨s2, a2, n2, c2, d2, k2, e2, rfl⟩ := hu3.shape; have bb1 := b1.ext0 (t1.trans t2)) | ((with_reducible show wpList _ _ _ (⟨_, .store 41 _ _, _, _, _, _⟩ :: _) _ _); refine st_storeBox stRat rfl rfl bb1 rfl rfl (one3 _ _ _ _ _ _ _) ?_; intro w7 r1 r2))
    have h7 := QC.mono _ _ _ _ le_unbox (QC.mono _ _ _ _ (le_store r2 (by omega) (by omega)) hu3)
    exact bodyPost_ret (results_box rfl rfl stRat r1 rfl) rfl ⟨ExtX.box (hE.trans (t1.trans t2)) r2 (by omega), _, rfl, h7⟩
  · have hd : ¬ x.num.sign < 0 := fun h => hx0 (sgn_lt.1 h)
    rw [ha2.out hx0]
    obtain ⟨sg, hsg'⟩ : ∃ sg, x.num.sign = sg := ⟨_, rfl⟩
    rw [hsg'] at hsg hd
    have hd' : decide (sg < 0) = false := decide_eq_false hd
    clear hsg' hx0 ha1 ha2
    have hnn : Hid (- -x = x) := hid (by grind)
    go_enter Tryz.func185, Tryz.ntmps185
    go_wp2_with (first | (go_at_call 125; refine hsg.mono ?_; rintro ee w1 ⟨t1, rfl⟩; have bb0 := b0.ext0 t1; have l00 := bb0.cell 0 rfl; have l01 := bb0.cell 1 rfl; have l02 := bb0.cell 2 rfl) | (go_at_call 237; (with_reducible refine (hneg.out w1 _ x t1 (hu2.out w1 t1)).mono ?_); rintro ee w2 ⟨t2, u2, rfl, hu3⟩; obtain ⟨s2, a2, n2, c2, d2, k2, e2, rfl⟩ := hu3.shape) | (go_at_call 237; (with_reducible refine (hneg.out w2 _ (-x) (t1.trans t2) (hu3.qv hqn.out)).mono ?_); rintro ee w3 ⟨t3, u3, rfl, hu4⟩; rw [hnn.out] at hu4; obtain ⟨s3, a3, n3, c3, d3, k3, e3, rfl⟩ := hu4.shape; have bb1 := b1.ext0 (t1.trans (t2.trans t3))) | ((with_reducible show wpList _ _ _ (⟨_, .store 41 _ _, _, _, _, _⟩ :: _) _ _); refine st_storeBox stRat rfl rfl bb1 rfl rfl (one3 _ _ _ _ _ _ _) ?_; intro w7 r1 r2))
    have h7 := QC.mono _ _ _ _ le_unbox (QC.mono _ _ _ _ (le_store r2 (by omega) (by omega)) hu4)
    exact bodyPost_ret (results_box rfl rfl stRat r1 rfl) rfl ⟨ExtX.box (hE.trans (t1.trans (t2.trans t3))) r2 (by omega), _, rfl, h7⟩
end Go.Proofs.YtnnpfhoigmegcaaGreat
namespace Go.Lin
open Go.Lim Go.Rep
def absT (x : Mat) (c : Nat) (d : List Rat) (i : Nat) : List Rat := absP (x.take i) c d
theorem absT_more {x : Mat} {c : Nat} {d : List Rat} {i : Nat} (h : i < x.length) : absT x c d (i + 1) = absT x c d i ++ [absR (dot c (vec d) (vec x[i]))] := by
  unfold absT absP
  rw [List.take_succ_eq_append_getElem h, List.map_append]; rfl
theorem absT_len {x : Mat} {c : Nat} {d : List Rat} {i : Nat} (h : i <= x.length) : (absT x c d i).length = i := by
  unfold absT; rw [absP_len, List.length_take]; omega
theorem absT_all (x : Mat) (c : Nat) (d : List Rat) : absT x c d x.length = absP x c d := by unfold absT; rw [List.take_length]
def updL (x : Mat) (c : Nat) (d l : List Rat) (i : Nat) : List Rat := (List.range l.length).map fun m => if 1 <= m /\ m <= i then maxQ (l.getD m 0) (partL x c d m) else l.getD m 0
theorem updL_len (x : Mat) (c : Nat) (d l : List Rat) (i : Nat) : (updL x c d l i).length = l.length := by simp [updL]
theorem updL_zero (x : Mat) (c : Nat) (d l : List Rat) : updL x c d l 0 = l := by
  unfold updL
  refine List.ext_getElem (by simp) fun m h1 h2 => ?_
  simp [List.getD_eq_getElem?_getD, h2, show ¬ (1 <= m /\ m = 0) by omega]
theorem updL_get {x : Mat} {c : Nat} {d l : List Rat} {i : Nat} (h : i + 1 < (updL x c d l i).length) : (updL x c d l i)[i + 1] = l.getD (i + 1) 0 := by
  simp [updL]; omega
theorem updL_set {x : Mat} {c : Nat} {d l : List Rat} {i : Nat} : (updL x c d l i).set (i + 1) (maxQ (l.getD (i + 1) 0) (partL x c d (i + 1))) = updL x c d l (i + 1) := by
  refine List.ext_getElem (by simp [updL]) fun m h1 h2 => ?_
  rw [List.getElem_set]
  by_cases hm : i + 1 = m
  · subst hm
    simp [updL]
  · rw [if_neg hm]
    have hm' : m < l.length := by simpa [updL] using h2
    simp only [updL, List.getElem_map, List.getElem_range]
    by_cases h3 : 1 <= m /\ m <= i
    · rw [if_pos h3, if_pos ⟨h3.1, by omega⟩]
    · rw [if_neg h3, if_neg (by omega)]
theorem updL_same {x : Mat} {c : Nat} {d l : List Rat} {i : Nat} (he : maxQ (l.getD (i + 1) 0) (partL x c d (i + 1)) = l.getD (i + 1) 0) : updL x c d l i = updL x c d l (i + 1) := by
  rw [<- updL_set, he]
  refine (List.ext_getElem (by simp) fun m h1 h2 => ?_).symm
  rw [List.getElem_set]
  by_cases hm : i + 1 = m
  · subst hm; rw [if_pos rfl, updL_get]
  · rw [if_neg hm]
end Go.Lin
namespace Go.Proofs.YtnnpfhoigmegcaaGreat
open Go.RowKit Go.Rep Go.Lim Go.Lin
set_option maxRecDepth 100000 in
set_option maxHeartbeats 3200000 in
theorem sharescb (M : Nat -> Bool) (W : World) (vd : Value) (d : List Rat) (x : Mat) (n c B bx bo base : Nat) (ao : Option Addr) (ca : Nat) (oo : Option Addr) (oc : Nat) (l : List Rat) (hM : HX M W) (hx : MV (mk (un M oo) W) (.slice ao n ca) x) (hd : RV (mk (un M oo) W) vd d) (hdl : d.length = c) (hs : Shp n c x) (hn8 : n <= 8) (hc4 : c <= 4) (hB : BM B x) (hBB : B <= 1000) (hdB : BR 42875000 d)
    (bx9 : Bx W bx #[.slice ao n ca] 25) (bo9 : Bx W bo #[.slice oo (n + 1) oc] 26) (hO : OL QC 3 M base 41 W oo oc l) (_hbase : base <= W.heap.size) (hll : l.length = n + 1) (hlB : BR 4000000000 l) (_hobx : ob oo bx = false) (hobo : ob oo bo = false) :
    Calls Tryz.prog 184 #[vd, .pointer (some ⟨bx, 0, none⟩), .pointer (some ⟨bo, 0, none⟩)] W (fun e W' => e = .returned (.tuple #[]) /\ ExtX (ob oo) W W' /\ OL QC 3 M base 41 W' oo oc (updL x c d l n)) := by
  obtain ⟨do_, dc, rfl, hdc, hds⟩ := hd
  have hsx : Sl RV 1 (mk (un M oo) W) ao x := by
    obtain ⟨_, _, he, _, h⟩ := hx
    simp only [Value.slice.injEq] at he
    obtain ⟨rfl, _, rfl⟩ := he
    exact h
  have hxl : x.length = n := hs.1
  have hhx := hsx.hd
  rw [hxl] at hhx
  have hxl' := hid hxl
  have hs' := hid hs
  obtain ⟨m, hm⟩ : ∃ m, d.length = m := ⟨_, rfl⟩
  have hm' := hid hm
  rw [hm]
  obtain ⟨W1, hW1, hE1, bl0, hz1⟩ := boxes1 W #[.slice none 0 0] 26
  obtain ⟨bl, hbl⟩ : ∃ bl, W.heap.size = bl := ⟨_, rfl⟩
  rw [hbl] at bl0 hz1
  have hnew : ∀ j, j < W.heap.size -> ob (some ⟨bl, 0, none⟩) j = false := fun j hj => ob_other (by omega)
  obtain ⟨M1, hM1⟩ : ∃ M1, un M (some ⟨bl, 0, none⟩) = M1 := ⟨_, rfl⟩
  have hMM1 : ∀ k, M1 k = true ↔ M k = true \/ k = bl := fun k => by
    rw [<- hM1]; simp only [un, Bool.or_eq_true]
    constructor
    · rintro (h | h)
      · exact Or.inl h
      · right; have : bl = k := by simpa [ob] using h
        exact this.symm
    · rintro (h | rfl)
      · exact Or.inl h
      · right; simp [ob]
  have hX1 : HX M1 W1 := fun k hk => by
    rcases (hMM1 k).1 hk with h | rfl
    · exact hM.ext hE1 k h
    · omega
  have hO1 : OL QC 3 M1 base 41 W1 oo oc l := hO.ext QC.elem hE1 (fun k _ hk => by simp [noY] at hk) (fun k hk hz => by
    rcases (hMM1 k).1 hz with h | h
    · exact h
    · omega)
  have hXu1 : HX (un M1 oo) W1 := hO1.unX hX1
  have hle1 : Le (mk (un M oo) W) (mk (un M1 oo) W1) := mk_over hE1 (fun k _ hk => by simp [noY] at hk) (fun k hk hz => by
    rcases Bool.or_eq_true_iff.1 hz with h | h
    · rcases (hMM1 k).1 h with h2 | h2
      · exact un_left h2
      · omega
    · exact un_right h)
  have hsx1 := hid (hsx.mono RV.mono hle1)
  have hdv1 := hid (RV.mono _ _ _ _ hle1 (show RV (mk (un M oo) W) (.slice do_ d.length dc) d from ⟨do_, dc, rfl, hdc, hds⟩))
  rw [hm] at hdv1
  obtain ⟨H1, hH1⟩ : ∃ H1, un M1 oo = H1 := ⟨_, rfl⟩
  rw [hH1] at hXu1 hsx1 hdv1
  have hblH : H1 bl = true := by rw [<- hH1]; exact un_left ((hMM1 bl).2 (Or.inr rfl))
  have bx1 := bx9.ext0 hE1
  have bo1 := bo9.ext0 hE1
  have kx : W1.cell? ⟨bx, 0, none⟩ = some (.slice ao n ca) := bx1.cell 0 rfl
  have hbxl : bx < bl := by have := bx9.lt; omega
  have hbol : bo < bl := by have := bo9.lt; omega
  have hW1' := hid hW1
  have hM1b : M1 bl = true := (hMM1 bl).2 (Or.inr rfl)
  have hMM1' := hid hMM1
  have hH1' := hid hH1
  have hoW := hid (fun k (h : ob oo k = true) => (hO.block h).2)
  have hll' := hid hll
  have hX1' := hid hX1
  clear hW1 hm hxl hs hx hds hdc hsx hM hM1 hMM1 hH1 hll hX1
  go_enter Tryz.func184, Tryz.ntmps184
  have kx' : (W.alloc (.cells #[.slice none 0 0] 26)).cell? ⟨bx, 0, none⟩ = some (.slice ao n ca) := by rw [hW1'.out]; exact kx
  go_wp2_with fail
  rw [hW1'.out]
  (try rw [hbl])
  go_loopw [14] (fun cc wr => ∃ (i : Nat) (lo : Option Addr) (lc : Nat), cc = .int .i64 i /\ i <= n /\ Bx wr bl #[.slice lo i lc] 26 /\ OL QC 3 H1 W1.heap.size 41 wr lo lc (absT x c d i) /\ ExtX (ob (some ⟨bl, 0, none⟩)) W1 wr) (fun cc _ => n - (intOf cc).toNat)
  case atStart => exact ⟨0, none, 0, rfl, Nat.zero_le _, bl0, OL.nil _ _ _ _ _ _, ExtX.refl _⟩
  case round =>
    obtain ⟨i, lo, lc, rfl, hi, blr, hOl, hE⟩ := hrel
    have hXr : HX H1 wr := hXu1.ext hE
    have hblY : ∀ k, ob (some ⟨bl, 0, none⟩) k = true -> H1 k = true := fun k hk => by
      have : bl = k := by simpa [ob] using hk
      rw [<- this]; exact hblH
    by_cases hlt : i < n
    · have hil : i < x.length := by rw [hxl'.out]; exact hlt
      have hXu : HX (un H1 lo) wr := hOl.unX hXr
      have hleu : Le (mk H1 W1) (mk (un H1 lo) wr) := mk_over hE (fun k _ hk => hblY k hk) (fun k hk hz => by
        rcases Bool.or_eq_true_iff.1 hz with h | h
        · exact h
        · rw [hOl.ob_lt hk] at h; exact absurd h (by decide))
      obtain ⟨a1, c1, hX1', hc1, hcl1, hq1⟩ := (hsx1.out.mono RV.mono (mk_mono hE hblY)).row i hil
      have hrl : x[i].length = c := hs'.out.2 _ (List.getElem_mem _)
      have hrB := hB _ (List.getElem_mem hil)
      have hbd := dot_bd hrl hc4 hrB hdB (by decide) hBB
      obtain ⟨u0, hcu, hru⟩ : ∃ u, wr.cell? (adr ao i) = some u /\ RV (mk (un H1 lo) wr) u x[i] := by
        obtain ⟨u, g1, _, g3⟩ := (hsx1.out.mono RV.mono hleu).cell SlV.one i hil
        exact ⟨u, mk_cell g1, _, g3⟩
      have hcu2 := hc1.out noY wr (ExtX.refl _) rfl
      rw [hrl] at hcu2
      rw [hcu2] at hcu
      obtain rfl : Value.slice a1 c c1 = u0 := by simpa using hcu
      have hdot := hid fun w' (h : Ext wr w') => edot_any (un H1 lo) w' (.slice a1 c c1) (.slice do_ m dc) x[i] d (hXu.ext h) (mkx RV.mono hru h) (mkx RV.mono (RV.mono _ _ _ _ hleu hdv1.out) h) (by omega) (by rw [hrl, hdl]) (fun q hq => Nat.le_trans (hbd.1 q hq) (by decide)) (fun q hq => Nat.le_trans (hbd.2 q hq) (by decide))
      have hdq : Hid (hq (dotL x[i] d) <= 200004013) := hid (hbd.1 _ (Nat.le_refl _))
      have hmo := hid (absT_more (c := c) (d := d) hil)
      have hal := hid (absT_len (c := c) (d := d) (Nat.le_of_lt hil))
      rw [dot_row hrl] at hdot hdq
      obtain ⟨D, hD⟩ : ∃ D, dot c (vec d) (vec x[i]) = D := ⟨_, rfl⟩
      rw [hD] at hdot hdq hmo
      have kx2 : wr.cell? ⟨bx, 0, none⟩ = some (.slice ao n ca) := hE.cellY kx (ob_other (by show bx ≠ bl; omega))
      obtain ⟨A, hA⟩ : ∃ A, absT x c d i = A := ⟨_, rfl⟩
      rw [hA] at hOl hmo hal
      have hobl : ob lo bl = false := hOl.ob_lt (by omega)
      clear hc1 hq1 hcl1 hrl hrB hbd hru hcu hD hA hX1'
      go_upto_region 4 with (with_reducible refine up_ix1 slRats (by omega) (by assumption) ?_)
      have hEd : Ext wr wr.drew := (ExtX.refl wr).drew
      have hwS : wr.drew.cell? ⟨bl, 0, none⟩ = some (.slice lo i lc) := hEd.cell (blr.cell 0 rfl)
      (try simp only [Act.put])
      refine wp_region_K 7 (fun w' => w'.cell? ⟨bl, 0, none⟩ = some (.slice lo i lc)) (by kernel_rfl) (by kernel_rfl) hwS (fun hHeld hOnce => ?_)
      refine kt 0 hOnce ?_
      refine kt 1 hOnce ?_
      refine kt 2 hOnce ?_
      refine ks 3 (fun K hK => ?_)
      go_simp
      ((with_reducible refine (hdot.out wr.drew hEd).mono ?_); rintro ee wa ⟨ga, ua, rfl, hua⟩; obtain ⟨s4, a4, n4, c4, d4, k4, e4, rfl⟩ := hua.shape)
      refine kcn hK (ga.cell hHeld) (fun hHeld => ?_)
      clear hK K
      refine ks 4 (fun K hK => ?_)
      go_simp
      ((with_reducible refine (qabs (un H1 lo) wa _ D (hXu.ext (hEd.trans ga)) (hua.qv (Nat.le_trans hdq.out (by decide)))).mono ?_); rintro ee wb ⟨gb, ub, rfl, hub⟩; obtain ⟨s5, a5, n5, c5, d5, k5, e5, rfl⟩ := hub.shape)
      refine kcn hK (gb.cell hHeld) (fun hHeld => ?_)
      clear hK K
      obtain ⟨wc, hwc, gc, bc, hzc⟩ := boxes1 wb #[.bool s5, .slice a5 n5 c5, .slice d5 k5 e5] 41
      refine ks 5 (fun K hK => ?_)
      go_simp
      skip
      refine kcn hK (gc.cell hHeld) (fun hHeld => ?_)
      clear hK K
      have hEc : Ext wr wc := hEd.trans (ga.trans (gb.trans gc))
      have hOc := hOl.ext0 QC.elem hEc
      obtain ⟨g, hg⟩ : ∃ g, wb.heap.size = g := ⟨_, rfl⟩
      rw [hg] at bc
      (try rw [hg])
      have hgu : un H1 lo g = false := by
        cases h : un H1 lo g
        · rfl
        · have := hXu.ext (hEd.trans (ga.trans gb)) g h
          omega
      have hsz := sl_box (Y := un H1 lo) (u := .agg #[.bool s5, .slice a5 n5 c5, .slice d5 k5 e5]) bc hgu (mkx QC.mono hub gc) rfl
      refine ks 6 (fun K hK => ?_)
      (refine step_appendl13 (l := A) rfl rfl slRat rfl QC.elem (Nat.le_trans hE.size hEc.size) (hXr.ext hEc) [absR D] i 1 hal.out rfl rfl rfl hOc hsz (by omega) (by omega) ?_; intro lo2 lc2 w6 hO6 hE6 hor)
      refine kcn hK (hE6.cellY hHeld hobl) (fun hHeld => ?_)
      clear hK K
      have hE16 : ExtX (ob (some ⟨bl, 0, none⟩)) W1 w6 := (hE.trans (ExtX.of hEc)).then_ hE6 fun k hk _ => hOc.ob_lt hk
      have bl6 := (blr.ext0 hEc).ext hE6 hobl
      refine kl 7 (fun K hK => ?_)
      (refine step_storeCell (v := .slice lo2 (i + 1) lc2) rfl rfl tyRats rfl rfl rfl rfl bl6 (by simp) ?_; intro w7 bl7 y7)
      refine hK.out _ _ ?_
      clear hK K
      (try simp only [Act.put])
      have hE17 := hE16.trans y7
      have hO7 := hO6.ext QC.elem y7 (fun k _ hk => hblY k hk) (fun _ _ h => h)
      rw [<- hmo.out] at hO7
      go_wp2_with fail
      go_roundw
      case rel => exact ⟨i + 1, lo2, lc2, by go_num, by omega, bl7, hO7, hE17⟩
      case measure => simp [intOf]; omega
    · obtain rfl : n = i := by omega
      have hall := absT_all x c d
      rw [hxl'.out] at hall
      rw [hall] at hOl
      have hl0 : (absP x c d).length = n := by rw [absP_len, hxl'.out]
      have hl0B : BR 200004013 (absP x c d) := fun q hq => by
        obtain ⟨r, hr, rfl⟩ := List.mem_map.1 hq
        have hrl := hs'.out.2 r hr
        have hbd := (dot_bd hrl hc4 (hB r hr) hdB (by decide) hBB).1 _ (Nat.le_refl _)
        rw [show dotN r d r.length = dotL r d from rfl, dot_row hrl] at hbd
        exact Nat.le_trans absR_hq hbd
      have hpart := hid (show ∀ m, partL x c d m = topS (absP x c d) m / sumL (absP x c d) from fun m => rfl)
      obtain ⟨l0, hl0'⟩ : ∃ l0, absP x c d = l0 := ⟨_, rfl⟩
      rw [hl0'] at hOl hl0 hl0B hpart
      have hso : Sorting H1 W1.heap.size lo lc n bl l0.toArray wr := ⟨by rw [List.toList_toArray]; exact hOl, by simpa using hl0, blr.cell 0 rfl, hOl.ob_lt (by omega), hXr, by rw [List.toList_toArray]; exact fun q hq => Nat.le_trans (hl0B q hq) (by decide)⟩
      have hcall := dsccall H1 W1.heap.size lo lc bl l0 wr (by rw [hl0]; exact hso) (by omega)
      rw [hl0] at hcall
      have kbl : wr.cell? ⟨bl, 0, none⟩ = some (.slice lo n lc) := blr.cell 0 rfl
      have hmf : ∀ (fn : Fn) (first cap : Array Value) (w : World), (Instr.makeFunc fn first cap).run Tryz.prog w = .ok (.func fn first cap) w := fun _ _ _ _ => rfl
      have hEW1 := hE
      have hO1' := hid hO1
      clear hE hlt hi kx hO1 hdv1 hsx1
      go_wp2_with (first | (go_at_call 186; refine hcall.mono ?_; rintro e w2 ⟨rfl, hS, hE2⟩; have hv := hS.var))
      have hEW2 : ExtX (ob (some ⟨bl, 0, none⟩)) W1 w2 := hEW1.then_ hE2 fun k hk _ => hOl.ob_lt hk
      have hOD := hS.own
      rw [List.toList_toArray] at hOD
      have hDl : (dscL l0).length = n := by rw [dscL_len, hl0]
      have hDB : BR 200004013 (dscL l0) := fun q hq => hl0B q (dscL_mem.1 hq)
      have hcc := hOD.lenCap
      rw [hDl] at hcc
      have hX2 := hS.hid
      have hsl := hOD.sl QC.elem
      have hlh := hOD.hd
      rw [hDl] at hlh
      have hsq := sumL_hq (n := 8) hDB (by omega)
      have hsum := esum_any H1 w2 (.slice lo n lc) (dscL l0) hX2 ⟨lo, lc, by rw [hDl], by rw [hDl]; exact hcc, hsl.qv fun q hq => Nat.le_trans (hDB q hq) (by decide)⟩ (by omega) (fun j hj => Nat.le_trans (hsq j hj) (by decide))
      rw [show sm (dscL l0).length (fn (dscL l0)) = sumL (dscL l0) from rfl] at hsum
      have hSq : Hid (hq (sumL (dscL l0)) <= 1600032113) := hid (hsq (dscL l0).length (Nat.le_refl _))
      have hTk := hid fun i => (by
        have h1 := sumL_hq (n := 8) (l := (dscL l0).take i) (fun q hq => hDB q (List.mem_of_mem_take hq)) (by rw [List.length_take]; omega) _ (Nat.le_refl _)
        exact h1 : hq (sumL ((dscL l0).take i)) <= 1600032113)
      have hTs := hid fun i (hi : i < (dscL l0).length) => (by
        rw [List.take_succ_eq_append_getElem hi, sumL_app, sumL_cons, sumL_nil]; grind : sumL ((dscL l0).take i) + (dscL l0)[i] = sumL ((dscL l0).take (i + 1)))
      have hPt := hid fun i => (by rw [hpart.out, <- dsc_top, <- dsc_sum l0] : partL x c d i = sumL ((dscL l0).take i) / sumL (dscL l0))
      obtain ⟨D, hD⟩ : ∃ D, dscL l0 = D := ⟨_, rfl⟩
      rw [hD] at hDl hDB hsl hsum hSq hTk hTs hPt
      obtain ⟨S, hSS⟩ : ∃ S, sumL D = S := ⟨_, rfl⟩
      rw [hSS] at hsum hSq hPt
      have hDl' := hid hDl
      clear hD hSS hcall hOD hS hsq hpart hl0B hl0 hl0' hso hOl blr hDl
      go_wp2_with (first | (go_at_call 188; refine hsum.mono ?_; rintro ee w3 ⟨t3, u3, rfl, hu3⟩; obtain ⟨sS, aS, nS, cS, dS, kS, eS, rfl⟩ := hu3.shape; have bx7 := Bx.new w3 #[.bool false, .slice none 0 0, .slice none 0 0] 41) | ((with_reducible show wpList _ _ _ (⟨_, .store 41 _ _, _, _, _, _⟩ :: _) _ _); refine st_storeBox stRat rfl rfl bx7 rfl rfl (one3 _ _ _ _ _ _ _) ?_; intro w5 r7 y7; have hE35 : Ext w3 w5 := ExtX.box ((ExtX.refl w3).alloc _) y7 (Nat.le_refl _); obtain ⟨w6, hw6, t6, r8, hz6⟩ := boxes1 w5 #[.bool false, .slice none 0 0, .slice none 0 0] 41; have kbl6 : (w5.alloc (.cells #[.bool false, .slice none 0 0, .slice none 0 0] 41)).cell? ⟨bl, 0, none⟩ = some (.slice lo n lc) := by { rw [hw6]; exact (t3.trans (hE35.trans t6)).cell hv }; have hw6' := hid hw6; clear hw6))
      rw [hw6'.out]
      obtain ⟨b7, hb7⟩ : ∃ b7, w3.heap.size = b7 := ⟨_, rfl⟩
      obtain ⟨b8, hb8⟩ : ∃ b8, w5.heap.size = b8 := ⟨_, rfl⟩
      rw [hb7] at r7
      rw [hb8] at r8
      (try rw [hb7])
      (try rw [hb8])
      have hE26 : Ext w2 w6 := t3.trans (hE35.trans t6)
      have hM2 : ∀ k, un M1 (some ⟨b8, 0, none⟩) k = true ↔ M1 k = true \/ k = b8 := fun k => by
        simp only [un, Bool.or_eq_true]
        constructor
        · rintro (h | h)
          · exact Or.inl h
          · right; have : b8 = k := by simpa [ob] using h
            exact this.symm
        · rintro (h | rfl)
          · exact Or.inl h
          · right; simp [ob]
      have hsz26 := hE26.size
      have hsz2 := hEW2.size
      have hszw : W.heap.size <= W1.heap.size := by omega
      have hb8w : w2.heap.size <= b8 := by have := t3.size; have := hE35.size; omega
      have hb7w : w2.heap.size <= b7 := by have := t3.size; omega
      have hb78 : b7 < b8 := by have := r7.lt; omega
      have hblw : bl < w2.heap.size := by omega
      obtain ⟨M2, hM2'⟩ : ∃ M2, un M1 (some ⟨b8, 0, none⟩) = M2 := ⟨_, rfl⟩
      rw [hM2'] at hM2
      have hM1H : ∀ k, M1 k = true -> H1 k = true := fun k hk => by rw [<- hH1'.out]; exact un_left hk
      have hO6 : OL QC 3 M2 base 41 w6 oo oc l := (hO1'.out.ext QC.elem hEW2 (fun k _ hk => by
        have : bl = k := by simpa [ob] using hk
        rw [<- this]; exact hM1b) (fun _ _ h => h)).ext QC.elem hE26 (fun k _ hk => by simp [noY] at hk) (fun k hk hz => by
        rcases (hM2 k).1 hz with h | h
        · exact h
        · omega)
      have hX6m : HX M2 w6 := fun k hk => by
        rcases (hM2 k).1 hk with h | h
        · have := hX1'.out k h; omega
        · have := r8.lt; omega
      have hXu6 : HX (un M2 oo) w6 := hO6.unX hX6m
      obtain ⟨H2, hH2⟩ : ∃ H2, un M2 oo = H2 := ⟨_, rfl⟩
      rw [hH2] at hXu6
      have hH2k : ∀ k, H2 k = true -> k < w2.heap.size -> H1 k = true := fun k hk hs => by
        rw [<- hH2] at hk
        rw [<- hH1'.out]
        rcases Bool.or_eq_true_iff.1 hk with h | h
        · rcases (hM2 k).1 h with h2 | h2
          · exact un_left h2
          · omega
        · exact un_right h
      have hb8H : H2 b8 = true := by rw [<- hH2]; exact un_left ((hM2 b8).2 (Or.inr rfl))
      have hooH : ∀ k, ob oo k = true -> H2 k = true := fun k hk => by rw [<- hH2]; exact un_right hk
      have hb8M : M2 b8 = true := (hM2 b8).2 (Or.inr rfl)
      have hD6 := hid (hsl.mono QC.mono (mk_over (Z := H2) hE26 (fun k _ hk => by simp [noY] at hk) (fun k hk hz => hH2k k hz hk)))
      have hS6 := hid (QC.mono _ _ _ _ (mk_over (Z := H2) (hE35.trans t6) (fun k _ hk => by simp [noY] at hk) (fun k hk hz => by
        by_cases h : k < w2.heap.size
        · exact hH2k k hz h
        · rw [<- hH2] at hz
          rcases Bool.or_eq_true_iff.1 hz with h2 | h2
          · rcases (hM2 k).1 h2 with h3 | h3
            · have := hX1'.out k h3; omega
            · have := hE35.size; omega
          · have := hoW.out k h2; omega)) hu3)
      have r76 := r7.ext0 t6
      have bo6 := (bo1.ext hEW2 (ob_other (by omega))).ext0 hE26
      have hob8 : ob oo b8 = false := by
        cases h : ob oo b8
        · rfl
        · have := hoW.out b8 h; omega
      have hob7 : ob oo b7 = false := by
        cases h : ob oo b7
        · rfl
        · have := hoW.out b7 h; omega
      have hEW6 : ExtX (ob (some ⟨bl, 0, none⟩)) W1 w6 := hEW2.trans (ExtX.of hE26)
      have hu0 := hid (updL_zero x c d l)
      have hMs := hid (fun k (hk : M k = true) => ((hM2 k).2 (Or.inl ((hMM1'.out k).2 (Or.inl hk))) : M2 k = true))
      have hWw6 : ExtX (ob oo) W w6 := (ExtX.of hE1).then_ hEW6 fun k hk _ => ob_other (by omega)
      have hbo8 : bo ≠ b8 := by omega
      have hbld : ∀ k, ob (some ⟨b8, 0, none⟩) k = true -> k = b8 := fun k hk => by
        have : b8 = k := by simpa [ob] using hk
        exact this.symm
      clear hE26 hsl hu3 r7 bo1 hE35 t3 t6 hEW2 hEW1 hE2 hXr hblY hXu1 hX2 hO1' bx9 bo9 hE1 bl0 hle1 bx1 hW1' hMM1' hX1' kx' kbl hv bx7 kbl6 hw6' hz6 hH1' hM1H hM2 hM2' hsum hM1b hs' hdB hB hhx
      go_loopw [34] (fun cc wr => ∃ (i : Nat) (sp : Bool) (ap : Option Addr) (np cp : Nat) (dp : Option Addr) (kp ep : Nat), cc = .int .i64 i /\ i <= n /\ Bx wr b8 #[.bool sp, .slice ap np cp, .slice dp kp ep] 41 /\ QC (mk H2 wr) (.agg #[.bool sp, .slice ap np cp, .slice dp kp ep]) (sumL (D.take i)) /\ OL QC 3 M2 base 41 wr oo oc (updL x c d l i) /\ ExtX (fun k => ob (some ⟨b8, 0, none⟩) k || ob oo k) w6 wr) (fun cc _ => n - (intOf cc).toNat)
      case atStart => exact ⟨0, _, _, _, _, _, _, _, rfl, Nat.zero_le _, r8, QC.zero _, by rw [hu0.out]; exact hO6, ExtX.refl _⟩
      case round =>
        obtain ⟨i, sp, ap, np, cp, dp, kp, ep, rfl, hi, r8r, hqp, hOr, hEr⟩ := hrel
        have hYH : ∀ k, (ob (some ⟨b8, 0, none⟩) k || ob oo k) = true -> H2 k = true := fun k hk => by
          rcases Bool.or_eq_true_iff.1 hk with h | h
          · rw [hbld k h]; exact hb8H
          · exact hooH k h
        have hXr : HX H2 wr := hXu6.ext hEr
        by_cases hlt : i < n
        · have hiD : i < D.length := by rw [hDl'.out]; exact hlt
          have hDr := hD6.out.mono QC.mono (mk_mono hEr hYH)
          have hSr := QC.mono _ _ _ _ (mk_mono hEr hYH) hS6.out
          have r7r := r76.ext hEr (by rw [ob_other (show b7 ≠ b8 by omega), hob7]; rfl)
          have bor := bo6.ext hEr (by rw [ob_other hbo8, hobo]; rfl)
          have hst := hid (hTs.out i hiD)
          have hxB := hDB _ (List.getElem_mem hiD)
          obtain ⟨v, hv⟩ : ∃ v, D[i] = v := ⟨_, rfl⟩
          rw [hv] at hst hxB
          have hv' := hid hv
          have hp1 := hid (hTk.out i)
          have hp2 := hid (hTk.out (i + 1))
          have hpq := hid (hPt.out (i + 1)).symm
          obtain ⟨P1, hP1⟩ : ∃ P1, sumL (D.take i) = P1 := ⟨_, rfl⟩
          obtain ⟨P2, hP2⟩ : ∃ P2, sumL (D.take (i + 1)) = P2 := ⟨_, rfl⟩
          rw [hP1] at hqp hst hp1
          rw [hP2] at hst hp2 hpq
          have hP2' := hid hP2
          have bx10 := Bx.new wr #[.bool false, .slice none 0 0, .slice none 0 0] 41
          obtain ⟨b10, hb10⟩ : ∃ b10, wr.heap.size = b10 := ⟨_, rfl⟩
          have hb810 : b8 < b10 := by have := r8r.lt; omega
          rw [hb10] at bx10
          clear hv hP1 hP2
          go_wp2_with (first
            | (with_reducible refine up_ixn slRat (by omega) (by assumption) ?_)
            | ((with_reducible show wpList _ _ _ (⟨_, .load 41 _, _, _, _, _⟩ :: _) _ _); refine st_loadElem stRat i hDr hiD rfl (by simp) QC.agg ?_; intro u5 hu5; rw [hv'.out] at hu5; obtain ⟨sv, av, nv, cv, dv, kv, ev, rfl⟩ := hu5.shape)
            | ((with_reducible show wpList _ _ _ (⟨_, .store 41 _ _, _, _, _, _⟩ :: _) _ _); refine st_storeBox stRat rfl rfl bx10 rfl rfl (one3 _ _ _ _ _ _ _) ?_; intro w7 r10 y10; have hE7 : Ext wr w7 := ExtX.box ((ExtX.refl wr).alloc _) y10 (by omega); have r87 := r8r.ext0 hE7; have kp7_0 : w7.cell? ⟨b8, 0, none⟩ = some (.bool sp) := r87.cell 0 rfl; have kp7_1 : w7.cell? ⟨b8, 1, none⟩ = some (.slice ap np cp) := r87.cell 1 rfl; have kp7_2 : w7.cell? ⟨b8, 2, none⟩ = some (.slice dp kp ep) := r87.cell 2 rfl; have kv7_0 : w7.cell? ⟨b10, 0, none⟩ = some (.bool sv) := r10.cell 0 rfl; have kv7_1 : w7.cell? ⟨b10, 1, none⟩ = some (.slice av nv cv) := r10.cell 1 rfl; have kv7_2 : w7.cell? ⟨b10, 2, none⟩ = some (.slice dv kv ev) := r10.cell 2 rfl; have hXw7 := hXr.ext hE7; have hp7 := mkx QC.mono hqp hE7; have hv7 := mkx QC.mono hu5 hE7)
            | (go_at_call 182; (with_reducible refine (qadd H2 w7 _ _ _ _ hXw7 (hp7.qv (Nat.le_trans hp1.out (by decide))) (hv7.qv (Nat.le_trans hxB (by decide)))).mono ?_); rintro ee wa ⟨ga, ua, rfl, hua⟩; rw [hst.out] at hua; obtain ⟨sq, aq, nq, cq, dq, kq, eq, rfl⟩ := hua.shape; have r8a := r87.ext0 ga)
            | ((with_reducible show wpList _ _ _ (⟨_, .store 41 _ _, _, _, _, _⟩ :: _) _ _); refine st_storeBox stRat rfl rfl r8a rfl rfl (one3 _ _ _ _ _ _ _) ?_; intro w9 r89 y89; have r79 := ((r7r.ext0 hE7).ext0 ga).ext y89 (ob_other (show b7 ≠ b8 by omega)); have kq9_0 : w9.cell? ⟨b8, 0, none⟩ = some (.bool sq) := r89.cell 0 rfl; have kq9_1 : w9.cell? ⟨b8, 1, none⟩ = some (.slice aq nq cq) := r89.cell 1 rfl; have kq9_2 : w9.cell? ⟨b8, 2, none⟩ = some (.slice dq kq eq) := r89.cell 2 rfl; have kS9_0 : w9.cell? ⟨b7, 0, none⟩ = some (.bool sS) := r79.cell 0 rfl; have kS9_1 : w9.cell? ⟨b7, 1, none⟩ = some (.slice aS nS cS) := r79.cell 1 rfl; have kS9_2 : w9.cell? ⟨b7, 2, none⟩ = some (.slice dS kS eS) := r79.cell 2 rfl; have hXw9 := (hXw7.ext ga).ext y89; have hb8y : ∀ k, ob (some ⟨b8, 0, none⟩) k = true -> H2 k = true := fun k hk => by { rw [hbld k hk]; exact hb8H }; have q9 := QC.mono _ _ _ _ (mk_mono y89 hb8y) hua; have S9 := QC.mono _ _ _ _ (mk_mono y89 hb8y) (mkx QC.mono hSr (hE7.trans ga)))
            | (go_at_call 152; (with_reducible refine (equot H2 w9 _ _ _ _ hXw9 (q9.qv (Nat.le_trans hp2.out (by decide))) (S9.qv (Nat.le_trans hSq.out (by decide)))).mono ?_); rintro ee wb ⟨gb, ub, rfl, hub⟩; rw [hpq.out] at hub; obtain ⟨s2, a2, n2, c2, d2, k2, e2, rfl⟩ := hub.shape; have bx11 := Bx.new wb #[.bool false, .slice none 0 0, .slice none 0 0] 41)
            | ((with_reducible show wpList _ _ _ (⟨_, .store 41 _ _, _, _, _, _⟩ :: _) _ _); refine st_storeBox stRat rfl rfl bx11 rfl rfl (one3 _ _ _ _ _ _ _) ?_; intro w12 r11 y11))
          have hE12 : Ext wb w12 := ExtX.box ((ExtX.refl wb).alloc _) y11 (Nat.le_refl _)
          obtain ⟨b11, hb11⟩ : ∃ b11, wb.heap.size = b11 := ⟨_, rfl⟩
          rw [hb11] at r11
          (try rw [hb11])
          have hO12 : OL QC 3 M2 base 41 w12 oo oc (updL x c d l i) := ((hOr.ext0 QC.elem (hE7.trans ga)).ext QC.elem y89 (fun k _ hk => by rw [hbld k hk]; exact hb8M) (fun _ _ h => h)).ext0 QC.elem (gb.trans hE12)
          have hE9r : ExtX (ob (some ⟨b8, 0, none⟩)) wr w9 := (ExtX.of (hE7.trans ga)).trans y89
          have hE12r : ExtX (ob (some ⟨b8, 0, none⟩)) wr w12 := hE9r.trans (ExtX.of (gb.trans hE12))
          have hX12 : HX H2 w12 := hXw9.ext (gb.trans hE12)
          have bo12 := bor.ext hE12r (ob_other hbo8)
          have r812 := r89.ext0 (gb.trans hE12)
          have hp12 := mkx QC.mono q9 (gb.trans hE12)
          have hu12 := mkx QC.mono hub hE12
          have hil : i + 1 < (updL x c d l i).length := by rw [updL_len, hll'.out]; omega
          obtain ⟨g1, o1, s1, a1, n1, c1, d1, k1, e1, hg1, hy1, hc1, hq1⟩ := hO12.rat QC.shaped (i + 1) hil
          rw [hH2, updL_get hil] at hq1
          have hoh : Hd oo (n + 1) := by have := hO12.hd; rwa [updL_len, hll'.out] at this
          have hlb : hq (l.getD (i + 1) 0) <= 4000000000 := by
            have h1 : i + 1 < l.length := by rw [hll'.out]; omega
            rw [show l.getD (i + 1) 0 = l[i + 1] by simp [List.getD_eq_getElem?_getD, h1]]
            exact hlB _ (List.getElem_mem h1)
          have ewi : IntKind.i64.wrap ((i : Int) + 1) = (i : Int) + 1 := IntWalk.i64_in _ (by omega)
          have i1 : ∀ W, (Instr.indexAt 26 (.slice oo (n + 1) oc) (.int .i64 ((i : Int) + 1))).run Tryz.prog W = .ok (.pointer (some ⟨g1, o1, none⟩)) W := by
            rw [<- hg1, show ((i : Int) + 1) = ((i + 1 : Nat) : Int) by omega]; exact run_indexAt_adr slRat oo (n + 1) oc .i64 (i + 1) hoh (by omega)
          have hEd : Ext w12 w12.drew := (ExtX.refl w12).drew
          have hwS : w12.drew.cell? ⟨bo, 0, none⟩ = some (.slice oo (n + 1) oc) /\ w12.drew.cell? ⟨g1, o1, none⟩ = some (.bool s1) /\ w12.drew.cell? ⟨g1, o1 + 1, none⟩ = some (.slice a1 n1 c1) /\ w12.drew.cell? ⟨g1, o1 + 2, none⟩ = some (.slice d1 k1 e1) /\ w12.drew.cell? ⟨b11, 0, none⟩ = some (.bool s2) /\ w12.drew.cell? ⟨b11, 1, none⟩ = some (.slice a2 n2 c2) /\ w12.drew.cell? ⟨b11, 2, none⟩ = some (.slice d2 k2 e2) := by
            have z := hc1.out noY w12.drew hEd rfl
            exact ⟨hEd.cell (bo12.cell 0 rfl), z.1, z.2.1, z.2.2, hEd.cell (r11.cell 0 rfl), hEd.cell (r11.cell 1 rfl), hEd.cell (r11.cell 2 rfl)⟩
          have hle6 := eless H2 w12.drew _ _ (l.getD (i + 1) 0) (partL x c d (i + 1)) (hX12.ext hEd) ((mkx QC.mono hq1 hEd).qv (Nat.le_trans hlb (by decide))) ((mkx QC.mono hu12 hEd).qv (by
            have h1 := hq_div P2 S
            have h2 := hp2.out
            have h3 := hSq.out
            rw [<- hpq.out]; omega))
          have hst1 := hid (updL_set (x := x) (c := c) (d := d) (l := l) (i := i))
          have hmx1 := hid fun (h : ltQ (l.getD (i + 1) 0) (partL x c d (i + 1)) = true) => (by unfold maxQ; rw [if_pos (ltQ_iff.1 h)] : maxQ (l.getD (i + 1) 0) (partL x c d (i + 1)) = partL x c d (i + 1))
          have hmx2 := hid fun (h : ltQ (l.getD (i + 1) 0) (partL x c d (i + 1)) = false) => (by unfold maxQ; rw [if_neg (fun h2 => by rw [ltQ_iff.2 h2] at h; cases h)] : maxQ (l.getD (i + 1) 0) (partL x c d (i + 1)) = l.getD (i + 1) 0)
          have hsm := hid fun h => updL_same (x := x) (c := c) (d := d) (l := l) (i := i) h
          rw [show decide (cmpQ (l.getD (i + 1) 0) (partL x c d (i + 1)) < 0) = ltQ (l.getD (i + 1) 0) (partL x c d (i + 1)) from rfl] at hle6
          obtain ⟨q1, hq1'⟩ : ∃ q, l.getD (i + 1) 0 = q := ⟨_, rfl⟩
          obtain ⟨q2, hq2'⟩ : ∃ q, partL x c d (i + 1) = q := ⟨_, rfl⟩
          rw [hq1', hq2'] at hle6 hst1 hmx1 hmx2 hsm
          rw [hq2'] at hu12
          obtain ⟨bb, hbb⟩ : ∃ bb, ltQ q1 q2 = bb := ⟨_, rfl⟩
          rw [hbb] at hle6 hmx1 hmx2
          clear hc1 hq1 hg1 hy1 hub hua hv7 hp7 hu5 q9 S9 hXw7 hXw9 bx11 r8a r87 r10 bx10 y10 y11 hO6 hOr hlb hq1' hq2' hbb kp7_0 kp7_1 kp7_2 kv7_0 kv7_1 kv7_2 kq9_0 kq9_1 kq9_2 kS9_0 kS9_1 kS9_2 r79 r7r r8r hDr hSr bor hE9r
          go_upto_region 14 with fail
          (try simp only [Act.put])
          refine wp_region_K 6 (fun w' => w'.cell? ⟨bo, 0, none⟩ = some (.slice oo (n + 1) oc) /\ w'.cell? ⟨g1, o1, none⟩ = some (.bool s1) /\ w'.cell? ⟨g1, o1 + 1, none⟩ = some (.slice a1 n1 c1) /\ w'.cell? ⟨g1, o1 + 2, none⟩ = some (.slice d1 k1 e1) /\ w'.cell? ⟨b11, 0, none⟩ = some (.bool s2) /\ w'.cell? ⟨b11, 1, none⟩ = some (.slice a2 n2 c2) /\ w'.cell? ⟨b11, 2, none⟩ = some (.slice d2 k2 e2)) (by kernel_rfl) (by kernel_rfl) hwS (fun hHeld hOnce => ?_)
          refine kt 0 hOnce ?_
          refine kt 1 hOnce ?_
          refine kt 2 hOnce ?_
          refine kt 3 hOnce ?_
          refine kt 4 hOnce ?_
          refine kt 5 hOnce ?_
          refine kl 6 (fun K hK => ?_)
          go_simp
          (with_reducible refine hle6.mono ?_)
          rintro ee w13 ⟨g13, rfl⟩
          refine hK.out _ _ ?_
          clear hK K
          (try simp only [Act.put])
          have hE123 := hEd.trans g13
          have hO13 := hO12.ext0 QC.elem hE123
          have k30 : w13.cell? ⟨bo, 0, none⟩ = some (.slice oo (n + 1) oc) := g13.cell hHeld.1
          have k31 : w13.cell? ⟨b11, 0, none⟩ = some (.bool s2) := g13.cell hHeld.2.2.2.2.1
          have k32 : w13.cell? ⟨b11, 1, none⟩ = some (.slice a2 n2 c2) := g13.cell hHeld.2.2.2.2.2.1
          have k33 : w13.cell? ⟨b11, 2, none⟩ = some (.slice d2 k2 e2) := g13.cell hHeld.2.2.2.2.2.2
          have r813 := r812.ext0 hE123
          have hp13 := mkx QC.mono hp12 hE123
          have hu13 := mkx QC.mono hu12 hE123
          rw [<- hH2] at hu13
          rw [<- hP2'.out] at hp13
          have hE6w : ExtX (fun k => ob (some ⟨b8, 0, none⟩) k || ob oo k) w6 w13 := (hEr.trans (hE12r.weaken fun k _ hk => by
            rw [Bool.or_eq_false_iff] at hk; exact hk.1)).trans (ExtX.of hE123)
          clear hwS hHeld hOnce hle6 hX12
          cases bb with
          | true =>
            have hset := hst1.out
            rw [hmx1.out rfl] at hset
            clear i1
            go_wp2_with (first | (with_reducible refine up_ixn slRat (by omega) (by assumption) ?_) | ((with_reducible show wpList _ _ _ (⟨_, .store 41 _ _, _, _, _, _⟩ :: _) _ _); refine st_store tyRat QC.elem (i + 1) rfl (by omega) hO13 hil _ q2 rfl hu13 ?_; intro w14 hO14 y14))
            rw [hset] at hO14
            have hE14 : ExtX (fun k => ob (some ⟨b8, 0, none⟩) k || ob oo k) w6 w14 := hE6w.trans (y14.weaken fun k _ hk => by
              rw [Bool.or_eq_false_iff] at hk; exact hk.2)
            have r814 := r813.ext y14 hob8
            have hp14 := QC.mono _ _ _ _ (mk_mono y14 hooH) hp13
            go_roundw
            case rel => exact ⟨i + 1, _, _, _, _, _, _, _, by go_num, by omega, r814, hp14, hO14, hE14⟩
            case measure => simp [intOf]; omega
          | false =>
            have hset := hsm.out (hmx2.out rfl)
            rw [hset] at hO13
            go_wp2_with fail
            go_roundw
            case rel => exact ⟨i + 1, _, _, _, _, _, _, _, by go_num, by omega, r813, hp13, hO13, hE6w⟩
            case measure => simp [intOf]; omega
        · obtain rfl : n = i := by omega
          have hfinE : ExtX (ob oo) W wr := hWw6.then_ hEr fun k hk hy => by
            show (ob (some ⟨b8, 0, none⟩) k || ob oo k) = false
            rw [ob_other (show k ≠ b8 by omega), hy]; rfl
          have hOf : OL QC 3 M base 41 wr oo oc (updL x c d l n) := hOr.ext QC.elem (ExtX.refl (Y := noY) wr) (fun k _ hk => by simp [noY] at hk) (fun k _ hk => hMs.out k hk)
          go_wp2_with fail
          go_end0
          exact ⟨rfl, hfinE, hOf⟩
end Go.Proofs.YtnnpfhoigmegcaaGreat
namespace Go.Lin
open Go.Lim Go.Rep
theorem ray_nz {n c : Nat} {x : Mat} (hs : Shp n c x) (hc : 1 <= c) {d : List Rat} (h : d ∈ raysL x c) : nz c (vec d) := by
  unfold raysL at h
  split at h
  · rename_i hc1
    subst hc1
    obtain rfl : d = [1] := by simpa using h
    exact ⟨0, by decide, by show (1 : Rat) ≠ 0; decide +kernel⟩
  · obtain ⟨s, hsm, hr⟩ := List.mem_filterMap.1 h
    obtain ⟨g1, g2, _⟩ := combs_mem _ _ _ _ hsm
    have hxl : x.length = n := hs.1
    have hb : ∀ i ∈ s, 0 <= i /\ i < (x.length : Int) := fun i hi => by have := g2 i hi; omega
    unfold rayO at hr
    split at hr
    · rename_i d' he
      obtain rfl : d' = d := by simpa using hr
      have hli := (null_basis (ray_shp hs hb)).li
      rw [show rowsL x s = s.map fun i => x.getD i.toNat [] from rfl, he] at hli
      refine nz_of fun h0 => ?_
      have := hli (fun _ => 1) (fun j hj => by
        show cmb 1 _ _ j = 0
        unfold cmb
        show (0 : Rat) + 1 * ent [d'] 0 j = 0
        have e : ent [d'] 0 j = vec d' j := rfl
        rw [e, h0 j hj]; grind) 0 (by simp)
      exact absurd this (by decide)
    · cases hr
theorem ray_ex {n c : Nat} {x : Mat} (hs : Shp n c x) (hc : 1 <= c) (hf : FullR x c) : ∃ d, d ∈ raysL x c := by
  obtain ⟨y, ⟨_, hy2, hy3⟩, _⟩ := vertex_ex (dirs_full (z := vecs x) (by omega) hf) _ (fun _ => 1) (by simp [Ort]) ⟨0, by omega, by show (1 : Rat) ≠ 0; decide +kernel⟩ rfl
  obtain ⟨d, hd, _⟩ := ray_of hs (by omega) hy2 fun y' h => hy3 y' (by simp [Ort]) h
  exact ⟨d, hd⟩
theorem sumL_pos {l : List Rat} (hn : ∀ q ∈ l, 0 <= q) {q : Rat} (hq : q ∈ l) (h : 0 < q) : 0 < sumL l := by
  induction l with
  | nil => simp at hq
  | cons a l ih =>
    rw [sumL_cons]
    have h1 := hn a List.mem_cons_self
    have h2 := sumL_nn fun x hx => hn x (List.mem_cons_of_mem a hx)
    rcases List.mem_cons.1 hq with rfl | hq
    · grind
    · have := ih (fun x hx => hn x (List.mem_cons_of_mem _ hx)) hq
      grind
theorem ray_sum {c : Nat} {x : Mat} (hf : FullR x c) {d : List Rat} (hd : nz c (vec d)) : 0 < sumL (absP x c d) := by
  obtain ⟨v, hv, hne⟩ : ∃ v ∈ vecs x, dot c (vec d) v ≠ 0 := by
    apply Classical.byContradiction
    intro h
    exact hd.not (hf (vec d) fun v hv => Classical.byContradiction fun e => h ⟨v, hv, e⟩)
  obtain ⟨r, hr, rfl⟩ := List.mem_map.1 hv
  exact sumL_pos absP_nn (List.mem_map.2 ⟨r, hr, rfl⟩) (absR_ne hne)
theorem zero_div' (q : Rat) : 0 / q = 0 := by rw [Rat.div_def]; grind
theorem part_zero (x : Mat) (c : Nat) (d : List Rat) : partL x c d 0 = 0 := by
  unfold partL; rw [topS_zero, zero_div']
theorem part_all {c : Nat} {x : Mat} (hf : FullR x c) {d : List Rat} (hd : nz c (vec d)) : partL x c d x.length = 1 := by
  unfold partL
  have h := ray_sum hf hd
  rw [show topS (absP x c d) x.length = sumL (absP x c d) by rw [<- topS_all, absP_len]]
  rw [Rat.div_def, Rat.mul_inv_cancel _ (by grind)]
theorem share_all {n c : Nat} {x : Mat} (hs : Shp n c x) (hc : 1 <= c) (hf : FullR x c) : shareL x c x.length = 1 := by
  obtain ⟨d, hd⟩ := ray_ex hs hc hf
  have h1 : (0 : Rat) <= 1 := by decide +kernel
  refine Rat.le_antisymm (share_le h1 fun d hd => by rw [part_all hf (ray_nz hs hc hd)]; exact Rat.le_refl) ?_
  rw [<- part_all hf (ray_nz hs hc hd)]
  exact share_ge hd
theorem sm_pick (l : List Rat) : ∀ (C : List Nat), C.Nodup -> (∀ i ∈ C, i < l.length) -> ∃ r, ((C.map fun i => l.getD i 0) ++ r).Perm l := by
  intro C hC hb
  refine ⟨((List.range l.length).filter (· ∉ C)).map fun i => l.getD i 0, ?_⟩
  rw [<- List.map_append]
  have h : (C ++ (List.range l.length).filter (· ∉ C)).Perm (List.range l.length) := by
    refine (List.perm_ext_iff_of_nodup ?_ List.nodup_range).2 fun i => ?_
    · rw [List.nodup_append]
      refine ⟨hC, List.Pairwise.filter _ List.nodup_range, fun a ha b hb hab => ?_⟩
      subst hab
      simp only [List.mem_filter, decide_not, Bool.not_eq_eq_eq_not, Bool.not_true, decide_eq_false_iff_not] at hb
      exact hb.2 ha
    · simp only [List.mem_append, List.mem_filter, List.mem_range, decide_not, Bool.not_eq_eq_eq_not, Bool.not_true, decide_eq_false_iff_not]
      constructor
      · rintro (h | h)
        · exact hb i h
        · exact h.1
      · intro h
        by_cases hi : i ∈ C
        · exact Or.inl hi
        · exact Or.inr ⟨h, hi⟩
  have h2 := h.map fun i => l.getD i 0
  refine h2.trans (List.Perm.of_eq ?_)
  refine List.ext_getElem (by simp) fun i h1 h2 => ?_
  simp [List.getD_eq_getElem?_getD, h2]
theorem sm_ind (l : List Rat) (C : List Nat) (hC : C.Nodup) (hb : ∀ i ∈ C, i < l.length) : sumL (C.map fun i => l.getD i 0) = sm l.length fun i => (if i ∈ C then 1 else 0) * l.getD i 0 := by
  induction C with
  | nil => rw [List.map_nil, sumL_nil]; exact (sm_zero fun i _ => by simp).symm
  | cons a C ih =>
    rw [List.nodup_cons] at hC
    rw [List.map_cons, sumL_cons, ih hC.2 fun i hi => hb i (List.mem_cons_of_mem _ hi)]
    have e : (fun i => (if i ∈ a :: C then (1 : Rat) else 0) * l.getD i 0) = fun i => (if i = a then l.getD i 0 else 0) + (if i ∈ C then 1 else 0) * l.getD i 0 := by
      funext i
      by_cases h : i = a
      · subst h
        simp [hC.1]
        grind
      · simp [h]
        grind
    rw [e, sm_add, sm_one (f := fun i => if i = a then l.getD i 0 else 0) a (hb a List.mem_cons_self) fun i _ hi => if_neg hi]
    show l.getD a 0 + _ = (if a = a then l.getD a 0 else 0) + _
    rw [if_pos rfl]
theorem greatest {n c : Nat} {x : Mat} (hs : Shp n c x) (hc : 1 <= c) (hf : FullR x c) (m : Nat) (C : List Nat) (hC : C.Nodup) (hb : ∀ i ∈ C, i < x.length) (hm : C.length <= m) (d : List Rat) :
    sumL (C.map fun i => (absP x c d).getD i 0) <= shareL x c m * sumL (absP x c d) := by
  have hgw : ∀ e : List Rat, GW c (fun i => (if i ∈ C then 1 else 0) - shareL x c m) (vecs x) (vec e) = sumL (C.map fun i => (absP x c e).getD i 0) - shareL x c m * sumL (absP x c e) := fun e => by
    rw [sm_ind _ _ hC fun i hi => by rw [absP_len]; exact hb i hi]
    unfold GW sumL
    rw [<- sm_mul, absP_len, vecs_len, <- sm_sub]
    refine sm_congr fun i hi => ?_
    have e1 : (absP x c e).getD i 0 = absR (dot c (vec e) ((vecs x).getD i z0)) := by
      simp [absP, vecs, List.getD_eq_getElem?_getD, hi]
    have e2 : fn (absP x c e) i = (absP x c e).getD i 0 := rfl
    rw [e2, e1]; grind
  have hmain := cone (w := fun i => (if i ∈ C then 1 else 0) - shareL x c m) (dirs_full (z := vecs x) (by omega) hf) (fun y hy => by
    obtain ⟨e, he, t, ht, het⟩ := ray_of hs (by omega) hy.2.1 fun y' h => hy.2.2 y' (by simp [Ort]) h
    have h1 := GW_congr (w := fun i => (if i ∈ C then 1 else 0) - shareL x c m) (z := vecs x) het
    have h2 := ray_sum hf (ray_nz hs hc he)
    have h3 : sumL (C.map fun i => (absP x c e).getD i 0) <= topS (absP x c e) m := by
      obtain ⟨r, hr⟩ := sm_pick (absP x c e) C hC fun i hi => by rw [absP_len]; exact hb i hi
      exact topS_ge absP_nn hr (by simpa using hm)
    have h4 : topS (absP x c e) m / sumL (absP x c e) <= shareL x c m := share_ge he
    have h5 : topS (absP x c e) m <= shareL x c m * sumL (absP x c e) := by
      have := Rat.mul_le_mul_of_nonneg_right h4 (Rat.le_of_lt h2)
      rwa [Rat.div_mul_cancel (by grind)] at this
    have h6 : GW c (fun i => (if i ∈ C then 1 else 0) - shareL x c m) (vecs x) (vec e) <= 0 := by rw [hgw]; grind
    rw [h1] at h6
    apply Classical.byContradiction
    intro hn
    have h7 := Rat.mul_pos (absR_ne ht) (show 0 < GW c (fun i => (if i ∈ C then 1 else 0) - shareL x c m) (vecs x) y by grind)
    grind) _ (vec d) rfl
  rw [hgw] at hmain
  grind
theorem part_hq {n c B : Nat} {x : Mat} (hs : Shp n c x) (hn8 : n <= 8) (hc4 : c <= 4) (hB : BM B x) (hBB : B <= 1000) {d : List Rat} (hdB : BR 42875000 d) (m : Nat) : hq (partL x c d m) <= 3300000000 := by
  have hxl : x.length = n := hs.1
  have hl0B : BR 200004013 (absP x c d) := fun q hqm => by
    obtain ⟨r, hr, rfl⟩ := List.mem_map.1 hqm
    have hrl := hs.2 r hr
    have hbd := (dot_bd hrl hc4 (hB r hr) hdB (by decide) hBB).1 _ (Nat.le_refl _)
    rw [show dotN r d r.length = dotL r d from rfl, dot_row hrl] at hbd
    have : hq (absR (dot c (vec d) (vec r))) <= hq (dot c (vec d) (vec r)) := by
      unfold absR
      split
      · exact Nat.le_of_eq (hq_neg _)
      · exact Nat.le_refl _
    omega
  have h1 := sumL_hq (n := 8) hl0B (by rw [absP_len]; omega) _ (Nat.le_refl _)
  have h2 := sumL_hq (n := 8) (l := (dscL (absP x c d)).take m) (fun q hqm => hl0B q (dscL_mem.1 (List.mem_of_mem_take hqm))) (by rw [List.length_take, dscL_len, absP_len]; omega) _ (Nat.le_refl _)
  have h3 := hq_div (topS (absP x c d) m) (sumL (absP x c d))
  have e1 : hq (sumL (absP x c d)) <= 1600032113 := h1
  have e2 : hq (topS (absP x c d) m) <= 1600032113 := by rw [<- dsc_top]; exact h2
  unfold partL
  omega
def shL (x : Mat) (c : Nat) (done : List (List Rat)) : List Rat := (List.range (x.length + 1)).map fun m => (done.map fun d => partL x c d m).foldl maxQ 0
theorem shL_len (x : Mat) (c : Nat) (done : List (List Rat)) : (shL x c done).length = x.length + 1 := by simp [shL]
theorem shL_nil (x : Mat) (c : Nat) : shL x c [] = List.replicate (x.length + 1) 0 := by
  refine List.ext_getElem (by simp [shL]) fun m h1 h2 => ?_
  simp [shL]
theorem shL_bd {x : Mat} {c K : Nat} {done : List (List Rat)} (h : ∀ d ∈ done, ∀ m, hq (partL x c d m) <= K) (hK : 1 <= K) : BR K (shL x c done) := fun q hq' => by
  obtain ⟨m, _, rfl⟩ := List.mem_map.1 hq'
  rcases (foldQ (done.map fun d => partL x c d m) 0).2.2 with e | e
  · rw [e, hq_zero]; exact hK
  · obtain ⟨d, hd, e2⟩ := List.mem_map.1 e
    rw [<- e2]; exact h d hd m
end Go.Lin
namespace Go.Proofs.YtnnpfhoigmegcaaGreat
open Go.RowKit Go.Rep Go.Lim
def TQOut (X : Nat -> Bool) (tb : Nat) (R : Mem -> Value -> Rat -> Prop) (k : Nat) (w : World) (e : Ending) (w' : World) : Prop := ExtX (tbm tb) w w' /\ TapeR X tb w' /\ ∃ u q, e = .returned u /\ R (mk X w') u q /\ hq q <= k
theorem TapeR.box {X : Nat -> Bool} {tb nb : Nat} {w W : World} (h : TapeR X tb w) (hE : Ext w W) : TapeR (hidB X w.heap.size nb) tb W := by
  have hlt := h.lt
  obtain ⟨hX, lo, l, cap, at_, h1, h2, h3, h4⟩ := h
  exact ⟨hidB_X hX, lo, l, cap, at_, by rw [hE.block tb hlt rfl]; exact h1, h2, h3, h4.mono (IntIn.mono _) (le_boxes hE)⟩
theorem TapeR.unbox {X : Nat -> Bool} {tb b nb : Nat} {w : World} (h : TapeR (hidB X b nb) tb w) (hX : X tb = true) : TapeR X tb w := by
  obtain ⟨_, lo, l, cap, at_, h1, h2, h3, h4⟩ := h
  exact ⟨hX, lo, l, cap, at_, h1, h2, h3, h4.mono (IntIn.mono _) le_unbox⟩
theorem TapeR.store {X : Nat -> Bool} {tb b nb : Nat} {w w' : World} (h : TapeR (hidB X b nb) tb w) (hE : ExtX (ob (some ⟨b, 0, Option.none⟩)) w w') (hb : 0 < nb) (ht : tb ≠ b) : TapeR (hidB X b nb) tb w' :=
  h.extY hE (fun k hk => by
    have : k = b := by
      have := hk
      simp [ob] at this
      omega
    subst this; simp [hidB]; omega) (ob_other ht)
theorem _root_.Go.Rep.ExtX.tbox {tb b : Nat} {w w4 w7 : World} (h : ExtX (tbm tb) w w4) (hE : ExtX (ob (some ⟨b, 0, none⟩)) w4 w7) (hb : w.heap.size <= b) : ExtX (tbm tb) w w7 := h.then_ hE (fun i hi _ => ob_other (by omega))
theorem lg_le1 {n : Nat} (h : n < 4294967296) : lg n <= 1 := by
  by_cases h0 : n = 0
  · subst h0; simp [lg_zero]
  · rw [lg_one_iff (by omega) h]; exact Nat.le_refl _
theorem lgI {a : Int} (h1 : -100000 <= a) (h2 : a <= 100000) : lg a.natAbs <= 1 := lg_le1 (by omega)
theorem hq_frac {a k : Int} (h1 : -100000 <= a) (h2 : a <= 100000) (h3 : -100000 <= k) (h4 : k <= 100000) : hq ((a : Rat) / (k : Rat)) <= 2 := by
  have := hq_div (a : Rat) (k : Rat)
  have := hq_int a 1 (lgI h1 h2) (by omega)
  have := hq_int k 1 (lgI h3 h4) (by omega)
  omega
set_option maxRecDepth 100000 in
theorem trat_any (X : Nat -> Bool) (tb : Nat) (w : World) (ht : TapeR X tb w) (hX : HX X w) : Calls Tryz.prog 61 #[.pointer (some ⟨tb, 0, none⟩)] w (TQOut X tb QC 2 w) := by
  have htb := ht.lt
  have htX := ht.1
  obtain ⟨W, hW, hE, b0, hz⟩ := boxes1 w #[.bool false, .slice none 0 0, .slice none 0 0] 41
  have hXW : HX (hidB X w.heap.size 1) W := hX.boxes hz
  have htW : TapeR (hidB X w.heap.size 1) tb W := ht.box hE
  obtain ⟨b, hb⟩ : ∃ b, w.heap.size = b := ⟨_, rfl⟩
  have hbw : w.heap.size <= b := by omega
  have htb' : tb ≠ b := by omega
  have hbt : b ≠ tb := by omega
  rw [hb] at b0 hz hXW htW
  have hEb : ExtX (tbm tb) w W := ExtX.of hE
  clear hE
  go_enter Tryz.func61, Tryz.ntmps61
  go_wp2_with fail
  refine (next_any (hidB X b 1) tb 8 _ htW (by omega)).mono ?_
  rintro e w1 ⟨hE1, ht1, m, rfl, hm⟩
  have b1 := b0.ext hE1 (tbm_ne hbt)
  have hX1 := hXW.ext hE1
  have hF1 := hEb.trans hE1
  clear b0 hXW htW hEb hE1
  by_cases h6 : m = 6
  · subst h6
    go_wp2_with fail
    refine (next_any (hidB X b 1) tb 13 _ ht1 (by omega)).mono ?_
    rintro e w2 ⟨hE2, ht2, m2, rfl, hm2⟩
    have hm2' : m2 < 13 := by omega
    have b2 := b1.ext hE2 (tbm_ne hbt)
    have hX2 := hX1.ext hE2
    have hF2 := hF1.trans hE2
    go_wp2_with fail
    refine (next_any (hidB X b 1) tb 6 _ ht2 (by omega)).mono ?_
    rintro e w3 ⟨hE3, ht3, m3, rfl, hm3⟩
    have hm3' : m3 < 6 := by omega
    have b3 := b2.ext hE3 (tbm_ne hbt)
    have hX3 := hX2.ext hE3
    have hF3 := hF2.trans hE3
    go_wp2_with fail
    refine (rqfraction (hidB X b 1) w3 _ _ hX3 (by omega) (by omega) (by omega) (by omega) (by omega) (Nat.le_trans (lgI (by omega) (by omega)) (by omega)) (Nat.le_trans (lgI (by omega) (by omega)) (by omega))).mono ?_
    rintro e w4 ⟨hE4, u4, rfl, hu4⟩
    obtain ⟨s6, a6, n6, c6, d6, k6, e6, rfl⟩ := hu4.shape
    have b4 := b3.ext0 hE4
    have ht4 := ht3.ext hE4
    have hF4 := hF3.trans (ExtX.of hE4)
    go_wp2_with ((with_reducible show wpList _ _ _ (⟨_, .store _ _ _, _, _, _, _⟩ :: _) _ _); refine st_storeBox stRat rfl rfl b4 rfl rfl (one3 _ _ _ _ _ _ _) ?_; intro w7 r1 r2)
    have h7 := QC.mono _ _ _ _ le_unbox (QC.mono _ _ _ _ (le_store r2 (by omega) (by omega)) hu4)
    exact bodyPost_ret (results_box rfl rfl stRat r1 rfl) rfl ⟨hF4.tbox r2 hbw, (ht4.store r2 (by omega) htb').unbox htX, _, _, rfl, h7, hq_frac (by omega) (by omega) (by omega) (by omega)⟩
  · by_cases h7 : m = 7
    · subst h7
      go_wp2_with fail
      refine (next_any (hidB X b 1) tb 2001 _ ht1 (by omega)).mono ?_
      rintro e w2 ⟨hE2, ht2, m2, rfl, hm2⟩
      have hm2' : m2 < 2001 := by omega
      have b2 := b1.ext hE2 (tbm_ne hbt)
      have hX2 := hX1.ext hE2
      have hF2 := hF1.trans hE2
      go_wp2_with fail
      refine (lit_pick (hidB X b 1) tb [1, 1, 7] _ _ _ w2 1 7 ht2 hX2 rfl rfl (by simp) (by simp) (hid (by simp))).mono ?_
      rintro e w3 ⟨hE3, ht3, m3, rfl, hm3, hm3'⟩
      have b3 := b2.ext hE3 (tbm_ne hbt)
      have hX3 := hX2.ext hE3
      have hF3 := hF2.trans hE3
      go_wp2_with fail
      refine (rqfraction (hidB X b 1) w3 _ _ hX3 (by omega) (by omega) (by omega) (by omega) (by omega) (Nat.le_trans (lgI (by omega) (by omega)) (by omega)) (Nat.le_trans (lgI (by omega) (by omega)) (by omega))).mono ?_
      rintro e w4 ⟨hE4, u4, rfl, hu4⟩
      obtain ⟨s6, a6, n6, c6, d6, k6, e6, rfl⟩ := hu4.shape
      have b4 := b3.ext0 hE4
      have ht4 := ht3.ext hE4
      have hF4 := hF3.trans (ExtX.of hE4)
      go_wp2_with ((with_reducible show wpList _ _ _ (⟨_, .store _ _ _, _, _, _, _⟩ :: _) _ _); refine st_storeBox stRat rfl rfl b4 rfl rfl (one3 _ _ _ _ _ _ _) ?_; intro w7 r1 r2)
      have h7 := QC.mono _ _ _ _ le_unbox (QC.mono _ _ _ _ (le_store r2 (by omega) (by omega)) hu4)
      exact bodyPost_ret (results_box rfl rfl stRat r1 rfl) rfl ⟨hF4.tbox r2 hbw, (ht4.store r2 (by omega) htb').unbox htX, _, _, rfl, h7, hq_frac (by omega) (by omega) (by omega) (by omega)⟩
    · have t6 : ((m : Int) == 6) = false := beqF (by omega)
      have t7 : ((m : Int) == 7) = false := beqF (by omega)
      go_wp2_with fail
      refine (next_any (hidB X b 1) tb 9 _ ht1 (by omega)).mono ?_
      rintro e w2 ⟨hE2, ht2, m2, rfl, hm2⟩
      have hm2' : m2 < 9 := by omega
      have b2 := b1.ext hE2 (tbm_ne hbt)
      have hX2 := hX1.ext hE2
      have hF2 := hF1.trans hE2
      go_wp2_with fail
      refine (rqfrom (hidB X b 1) w2 _ hX2 (by omega) (by omega)).mono ?_
      rintro e w4 ⟨hE4, u4, rfl, hu4⟩
      obtain ⟨s6, a6, n6, c6, d6, k6, e6, rfl⟩ := hu4.shape
      have b4 := b2.ext0 hE4
      have ht4 := ht2.ext hE4
      have hF4 := hF2.trans (ExtX.of hE4)
      go_wp2_with ((with_reducible show wpList _ _ _ (⟨_, .store _ _ _, _, _, _, _⟩ :: _) _ _); refine st_storeBox stRat rfl rfl b4 rfl rfl (one3 _ _ _ _ _ _ _) ?_; intro w7 r1 r2)
      have h7 := QC.mono _ _ _ _ le_unbox (QC.mono _ _ _ _ (le_store r2 (by omega) (by omega)) hu4)
      exact bodyPost_ret (results_box rfl rfl stRat r1 rfl) rfl ⟨hF4.tbox r2 hbw, (ht4.store r2 (by omega) htb').unbox htX, _, _, rfl, h7, Nat.le_trans (hq_int _ 1 (lgI (by omega) (by omega)) (by omega)) (by omega)⟩
end Go.Proofs.YtnnpfhoigmegcaaGreat
namespace Go.Lin
open Go.Lim Go.Rep
theorem shL_snoc (x : Mat) (c : Nat) (done : List (List Rat)) (d : List Rat) : updL x c d (shL x c done) x.length = shL x c (done ++ [d]) := by
  refine List.ext_getElem (by simp [updL, shL]) fun m h1 h2 => ?_
  have hm : m < x.length + 1 := by simpa [shL] using h2
  have e : (shL x c done).getD m 0 = (done.map fun d => partL x c d m).foldl maxQ 0 := by simp [shL, List.getD_eq_getElem?_getD, hm]
  simp only [updL, List.getElem_map, List.getElem_range]
  rw [e]
  simp only [shL, List.getElem_map, List.getElem_range, List.map_append, List.map_singleton, List.foldl_append, List.foldl_cons, List.foldl_nil]
  by_cases h0 : m = 0
  · subst h0
    rw [if_neg (by omega), part_zero]
    have hz : (done.map fun d => partL x c d 0).foldl maxQ 0 = 0 := by
      rcases (foldQ (done.map fun d => partL x c d 0) 0).2.2 with e | e
      · exact e
      · obtain ⟨d', _, e2⟩ := List.mem_map.1 e
        rw [<- e2, part_zero]
    rw [hz]; decide +kernel
  · rw [if_pos ⟨by omega, by omega⟩]
theorem shL_all (x : Mat) (c : Nat) : shL x c (raysL x c) = (List.range (x.length + 1)).map fun m => shareL x c m := rfl
noncomputable def shE (x : Mat) (m : Int) : Int := if dsgB x = false then 6 else if m < 0 \/ (x.length : Int) < m then 1 else if (redP x (colsL x)).2.length = colsL x then 0 else 7
end Go.Lin
namespace Go.Proofs.YtnnpfhoigmegcaaGreat
open Go.RowKit Go.Rep Go.Lim Go.Lin
set_option maxRecDepth 100000 in
theorem eover (X : Nat -> Bool) (w : World) (a k : Int) (hX : HX X w) (h1 : -100000 <= a) (h2 : a <= 100000) (h3 : -100000 <= k) (h4 : k <= 100000) : Calls Tryz.prog 105 #[.int .i64 a, .int .i64 k] w (ROut X w QC ((a : Rat) / (k : Rat))) := by
  obtain ⟨W, hW, hE, b0, hz⟩ := boxes1 w #[.bool false, .slice none 0 0, .slice none 0 0] 41
  have hXW : HX (hidB X w.heap.size 1) W := hX.boxes hz
  obtain ⟨b, hb⟩ : ∃ b, w.heap.size = b := ⟨_, rfl⟩
  have hbw : w.heap.size <= b := by omega
  rw [hb] at b0 hz hXW
  have qa : Hid (hq (a : Rat) <= 68719476736) := hid (Nat.le_trans (hq_int a 1 (lgI h1 h2) (Nat.le_refl _)) (by decide))
  have qk : Hid (hq (k : Rat) <= 68719476736) := hid (Nat.le_trans (hq_int k 1 (lgI h3 h4) (Nat.le_refl _)) (by decide))
  go_enter Tryz.func105, Tryz.ntmps105
  go_wp2_with (first | (go_at_call 150; (with_reducible refine (qfrom (hidB X b 1) W a hXW (by omega) (by omega)).mono ?_); rintro ee w1 ⟨t1, u1, rfl, hu1⟩; obtain ⟨s1, a1, n1, c1, d1, k1, e1, rfl⟩ := hu1.shape) | (go_at_call 150; (with_reducible refine (qfrom (hidB X b 1) w1 k (hXW.ext t1) (by omega) (by omega)).mono ?_); rintro ee w2 ⟨t2, u2, rfl, hu2⟩; obtain ⟨s2, a2, n2, c2, d2, k2, e2, rfl⟩ := hu2.shape) | (go_at_call 152; (with_reducible refine (equot (hidB X b 1) w2 _ _ _ _ ((hXW.ext t1).ext t2) ((mkx QC.mono hu1 t2).qv qa.out) (hu2.qv qk.out)).mono ?_); rintro ee w3 ⟨t3, u3, rfl, hu3⟩; obtain ⟨s3, a3, n3, c3, d3, k3, e3, rfl⟩ := hu3.shape; have bb := b0.ext0 (t1.trans (t2.trans t3))) | ((with_reducible show wpList _ _ _ (⟨_, .store 41 _ _, _, _, _, _⟩ :: _) _ _); refine st_storeBox stRat rfl rfl bb rfl rfl (one3 _ _ _ _ _ _ _) ?_; intro w7 r1 r2))
  have h7 := QC.mono _ _ _ _ le_unbox (QC.mono _ _ _ _ (le_store r2 (by omega) (by omega)) hu3)
  exact bodyPost_ret (results_box rfl rfl stRat r1 rfl) rfl ⟨ExtX.box (hE.trans (t1.trans (t2.trans t3))) r2 (by omega), _, rfl, h7⟩
set_option maxRecDepth 100000 in
set_option maxHeartbeats 3200000 in
theorem bshares (X : Nat -> Bool) (w : World) (u : Value) (x : List (List Rat)) (B : Nat) (hX : HX X w) (hu : MV (mk X w) u x) (hd : dsgB x = true) (hn8 : x.length <= 8) (hB : BM B x) (hB1 : 1 <= B) (hBB : B <= 1000) :
    Calls Tryz.prog 106 #[u] w (fun e w' => Ext w w' /\ ∃ oo oc, e = .returned (.slice oo (x.length + 1) oc) /\ x.length + 1 <= oc /\ Sl QC 3 (mk X w') oo ((List.range (x.length + 1)).map fun m => shareL x (colsL x) m)) := by
  have hmf : ∀ (fn : Fn) (first cap : Array Value) (w : World), (Instr.makeFunc fn first cap).run Tryz.prog w = .ok (.func fn first cap) w := fun _ _ _ _ => rfl
  obtain ⟨hs, h1, h64, hc1, hc4⟩ := dsg_shp hd
  obtain ⟨ao, ca, rfl, hca, hsa⟩ := hu
  obtain ⟨c, hc⟩ : ∃ c, colsL x = c := ⟨_, rfl⟩
  obtain ⟨n, hn⟩ : ∃ n, x.length = n := ⟨_, rfl⟩
  have hn' := hid hn
  rw [hn] at hs h1 h64 hn8 hca |-
  rw [hc] at hs hc1 hc4 |-
  obtain ⟨W, hW, hE, b0, hz⟩ := boxes1 w #[.slice ao n ca] 25
  have hsW := hsa.mono RV.mono (mk_ext hE)
  have hXW : HX X W := hX.ext hE
  have huW : MV (mk X W) (.slice ao n ca) x := ⟨ao, ca, by rw [hn], by rw [hn]; exact hca, hsW⟩
  obtain ⟨b, hb⟩ : ∃ b, w.heap.size = b := ⟨_, rfl⟩
  rw [hb] at b0 hz
  have k0 : W.cell? ⟨b, 0, none⟩ = some (.slice ao n ca) := b0.cell 0 rfl
  have ewn : IntKind.i64.wrap ((n : Int) + 1) = ((n + 1 : Nat) : Int) := by rw [IntWalk.i64_in _ (by omega)]; omega
  clear hsa hc hd
  go_enter Tryz.func106, Tryz.ntmps106
  go_wp2_with ((with_reducible show wpList _ _ _ (⟨_, .makeSlice _ _ _, _, _, _, _⟩ :: _) _ _); refine st_make (R := QC) slRat QC.elem (0 : Rat) (fun _ => QC.zero _) X hXW W.heap.size (Nat.le_refl _) (n + 1) rfl rfl rfl (by omega) (by omega) ?_; intro oo w2 hO2 hE2; obtain ⟨w3, hw3, t3, b3, hz3⟩ := boxes1 w2 #[.slice oo (n + 1) (n + 1)] 26; have k3 : (w2.alloc (.cells #[.slice oo (n + 1) (n + 1)] 26)).cell? ⟨b, 0, none⟩ = some (.slice ao n ca) := by { rw [hw3]; exact (hE2.trans t3).cell k0 }; have hw3' := hid hw3; clear hw3)
  rw [hw3'.out]
  obtain ⟨bo, hbo⟩ : ∃ bo, w2.heap.size = bo := ⟨_, rfl⟩
  rw [hbo] at b3 hz3
  (try rw [hbo])
  obtain ⟨nb, hnb⟩ : ∃ nb, nb = if c = 1 then 2 else 8 := ⟨_, rfl⟩
  have hnb2 : 2 <= nb := by rw [hnb]; split <;> decide
  have hE3 : Ext W w3 := hE2.trans t3
  have hblk := hid fun k (h : ob oo k = true) => (by have := hO2.block h; rw [hbo] at this; exact this : W.heap.size <= k /\ k < bo)
  have hbW : b < W.heap.size := b0.lt
  have hWbo : W.heap.size <= bo := by have := hE2.size; omega
  have hobb : ob oo b = false := by
    cases h : ob oo b
    · rfl
    · have := hblk.out b h; omega
  have hobo : ob oo bo = false := by
    cases h : ob oo bo
    · rfl
    · have := hblk.out bo h; omega
  have b03 := b0.ext0 hE3
  have hwX : ∀ k, X k = true -> k < w.heap.size := hX
  have hszW : w.heap.size <= W.heap.size := hE.size
  have hMk : ∀ k, (X k || octB (bo + 1) nb k) = true ↔ X k = true \/ (bo + 1 <= k /\ k < bo + 1 + nb) := fun k => by
    simp only [Bool.or_eq_true, octB_iff]
  have hHk : ∀ k, un (fun k => X k || octB (bo + 1) nb k) oo k = true ↔ X k = true \/ (bo + 1 <= k /\ k < bo + 1 + nb) \/ ob oo k = true := fun k => by
    simp only [un, Bool.or_eq_true, octB_iff, or_assoc]
  have hyk : ∀ k, (ob oo k || octB (bo + 1) nb k) = true ↔ ob oo k = true \/ (bo + 1 <= k /\ k < bo + 1 + nb) := fun k => by
    simp only [Bool.or_eq_true, octB_iff]
  have hx3 : MV (mk (un (fun k => X k || octB (bo + 1) nb k) oo) w3) (.slice ao n ca) x := MV.mono _ _ _ _ (mk_over hE3 (fun k _ hk => by simp [noY] at hk) fun k hk hz => by
    rcases (hHk k).1 hz with h | h | h
    · exact h
    · omega
    · have := hblk.out k h; omega) huW
  have hO3 : OL QC 3 (fun k => X k || octB (bo + 1) nb k) W.heap.size 41 w3 oo (n + 1) (shL x c []) := by
    rw [shL_nil, hn'.out]
    exact hO2.ext QC.elem t3 (fun k _ hk => by simp [noY] at hk) fun k hk hz => by
      rcases (hMk k).1 hz with h | h
      · exact h
      · omega
  have hray := brays 184 #[.pointer (some ⟨b, 0, none⟩), .pointer (some ⟨bo, 0, none⟩)]
    (fun done W' => ExtX (fun k => ob oo k || octB (bo + 1) nb k) w3 W' /\ Bx W' b #[.slice ao n ca] 25 /\ Bx W' bo #[.slice oo (n + 1) (n + 1)] 26 /\ OL QC 3 (fun k => X k || octB (bo + 1) nb k) W.heap.size 41 W' oo (n + 1) (shL x c done))
    (un (fun k => X k || octB (bo + 1) nb k) oo) w3 (.slice ao n ca) x n c B nb hnb (fun _ _ => rfl)
    (fun k hk => by
      rcases (hHk k).1 hk with h | h | h
      · have := hwX k h; have := hE3.size; omega
      · omega
      · have := hblk.out k h; omega)
    (fun k hk => by rw [hz3] at hk; exact (hHk k).2 (Or.inr (Or.inl (octB_iff.1 hk)))) hx3 hs h1 h64 hc1 hc4 hB hB1 hBB
    (fun done W' hi => hi.1.weaken fun k _ hk => by
      cases h : (ob oo k || octB (bo + 1) nb k)
      · rfl
      · rcases (hyk k).1 h with h2 | h2
        · rw [(hHk k).2 (Or.inr (Or.inr h2))] at hk; exact absurd hk (by decide)
        · rw [(hHk k).2 (Or.inr (Or.inl h2))] at hk; exact absurd hk (by decide))
    (fun done W' W'' hi hE9 => by
      rw [hz3] at hE9
      have hob : ∀ k, k <= bo -> octB (bo + 1) nb k = false := fun k hk => by
        cases h : octB (bo + 1) nb k
        · rfl
        · have := octB_iff.1 h; omega
      exact ⟨hi.1.trans (hE9.weaken fun k _ hk => by
        cases h : octB (bo + 1) nb k
        · rfl
        · rw [(hyk k).2 (Or.inr (octB_iff.1 h))] at hk; exact absurd hk (by decide)), hi.2.1.ext hE9 (hob _ (by omega)), hi.2.2.1.ext hE9 (hob _ (Nat.le_refl _)), hi.2.2.2.ext QC.elem hE9 (fun k _ hk => (hMk k).2 (Or.inr (octB_iff.1 hk))) (fun _ _ h => h)⟩)
    (fun done d W' vd hi hpre hvd hdl hsz => by
      obtain ⟨rest, hrest⟩ := hpre
      have hmem : ∀ q ∈ done ++ [d], q ∈ raysL x c := fun q hq => by rw [<- hrest]; exact List.mem_append_left _ hq
      have hdB : ∀ q ∈ raysL x c, BR 42875000 q := fun e he q hq => by
        have := (rays_mem hs hn'.out hc1 hc4 (bm_hb hB hB1) hBB he).2 q hq
        have h2 := Nat.mul_le_mul_left 42875 hBB
        omega
      rw [hz3] at hsz
      have hXM : HX (fun k => X k || octB (bo + 1) nb k) W' := fun k hk => by
        rcases (hMk k).1 hk with h | h
        · have := hwX k h; omega
        · omega
      have hxW' : MV (mk (un (fun k => X k || octB (bo + 1) nb k) oo) W') (.slice ao n ca) x := MV.mono _ _ _ _ (mk_mono hi.1 fun k hk => by
        rcases (hyk k).1 hk with h2 | h2
        · exact (hHk k).2 (Or.inr (Or.inr h2))
        · exact (hHk k).2 (Or.inr (Or.inl h2))) hx3
      have hlB : BR 4000000000 (shL x c done) := fun q hq => Nat.le_trans (shL_bd (K := 3300000000) (fun e he m => part_hq hs hn8 hc4 hB hBB (hdB e (hmem e (List.mem_append_left _ he))) m) (by decide) q hq) (by decide)
      refine (sharescb _ W' vd d x n c B b bo W.heap.size ao ca oo (n + 1) (shL x c done) hXM hxW' hvd hdl hs hn8 hc4 hB hBB (hdB d (hmem d (by simp))) hi.2.1 hi.2.2.1 hi.2.2.2 (by omega) (by rw [shL_len, hn'.out]) hlB hobb hobo).mono ?_
      rintro e W'' ⟨rfl, hE9, hO9⟩
      have hsn := shL_snoc x c done d
      rw [hn'.out] at hsn
      rw [hsn] at hO9
      refine ⟨rfl, ⟨hi.1.trans (hE9.weaken fun k _ hk => ?_), hi.2.1.ext hE9 hobb, hi.2.2.1.ext hE9 hobo, hO9⟩, ?_⟩
      · cases h : ob oo k
        · rfl
        · rw [(hyk k).2 (Or.inl h)] at hk; exact absurd hk (by decide)
      · rw [hz3]
        exact KeepO.of hE9 (fun k hk => by
          have := hblk.out k hk
          cases h : octB (bo + 1) nb k
          · rfl
          · have := octB_iff.1 h; omega) hsz)
    ⟨ExtX.refl _, b03, b3, hO3⟩
  clear hO2 b03 b3 hx3 hO3
  refine hray.mono ?_
  rintro ee w4 ⟨rfl, hE4, bx4, bo4, hO4⟩
  have ko : w4.cell? ⟨bo, 0, none⟩ = some (.slice oo (n + 1) (n + 1)) := bo4.cell 0 rfl
  have hEw : Ext w w4 := (hE.trans hE3).then_ hE4 fun k hk _ => by
    cases h : (ob oo k || octB (bo + 1) nb k)
    · rfl
    · rcases (hyk k).1 h with h2 | h2
      · have := hblk.out k h2; omega
      · omega
  have hsl := (hO4.sl QC.elem).mono QC.mono (mk_sub (X := X) (Z := fun k => X k || octB (bo + 1) nb k) (w := w4) fun k _ hk => (hMk k).2 (Or.inl hk))
  rw [shL_all, hn'.out] at hsl
  clear hray bx4 bo4 hO4 k3
  go_wp2_with fail
  go_ret
  exact ⟨hEw, oo, n + 1, rfl, Nat.le_refl _, hsl⟩
def ShOutB (X : Nat -> Bool) (w : World) (er : Int) (q : Rat) (e : Ending) (w' : World) : Prop := Ext w w' /\ ∃ u, e = .returned (.tuple #[u, .int .i64 er]) /\ QC (mk X w') u (if er = 0 then q else 0)
set_option maxRecDepth 100000 in
set_option maxHeartbeats 3200000 in
theorem bshare (X : Nat -> Bool) (w : World) (u : Value) (x : List (List Rat)) (m : Int) (B : Nat) (hX : HX X w) (hu : MV (mk X w) u x) (hn8 : x.length <= 8) (hB : BM B x) (hB1 : 1 <= B) (hBB : B <= 1000) :
    Calls Tryz.prog 38 #[u, .int .i64 m] w (ShOutB X w (shE x m) (shareL x (colsL x) m.toNat)) := by
  obtain ⟨W, hW, hE, b0, hz⟩ := boxes1 w #[.bool false, .slice none 0 0, .slice none 0 0] 41
  have hXW : HX (hidB X w.heap.size 1) W := hX.boxes hz
  have hu1 := MV.mono _ _ _ _ (le_boxes (nb := 1) hE) hu
  obtain ⟨b, hb⟩ : ∃ b, w.heap.size = b := ⟨_, rfl⟩
  have hbw : w.heap.size <= b := by omega
  rw [hb] at b0 hz hXW hu1
  obtain ⟨ao, ca, rfl, hca, hsa⟩ := hu
  have hdes := bdesign (hidB X b 1) W _ x hu1 (by omega)
  have hfu := hid fun (hd : dsgB x = true) => bfull (hidB X b 1) W _ x B hXW hu1 hd hB hB1 hBB
  have hsh := hid fun (hd : dsgB x = true) w1 (h : Ext W w1) => bshares (hidB X b 1) w1 _ x B (hXW.ext h) (mkx MV.mono hu1 h) hd hn8 hB hB1 hBB
  have hsb := hid fun (hd : dsgB x = true) m' => (by
    obtain ⟨hs, h1, h64, hc1, hc4⟩ := dsg_shp hd
    rcases (foldQ ((raysL x (colsL x)).map fun d => partL x (colsL x) d m') 0).2.2 with e | e
    · unfold shareL; rw [e, hq_zero]; decide
    · obtain ⟨d, hd', e2⟩ := List.mem_map.1 e
      have hdB : BR 42875000 d := fun q hq => by
        have := (rays_mem hs rfl hc1 hc4 (bm_hb hB hB1) hBB hd').2 q hq
        have h2 := Nat.mul_le_mul_left 42875 hBB
        omega
      have := part_hq hs hn8 hc4 hB hBB hdB m'
      unfold shareL
      rw [<- e2]; exact Nat.le_trans this (by decide) : hq (shareL x (colsL x) m') <= 68719476736)
  obtain ⟨n, hn⟩ : ∃ n, x.length = n := ⟨_, rfl⟩
  have hn' := hid hn
  rw [hn] at hca hn8 hsh hdes hfu |-
  have hend := hid fun (er : Int) (w' : World) (he : Ext W w') (hne : ¬ er = 0) => (⟨he, hne⟩ : Ext W w' /\ ¬ er = 0)
  by_cases hd : dsgB x = true
  · rw [hd] at hdes
    have hf1 := hfu.out hd
    have hs1 := hid (hsh.out hd)
    have hb1 := hid (hsb.out hd)
    by_cases hm : m < 0 \/ (n : Int) < m
    · have e1 : shE x m = 1 := by unfold shE; rw [hd, if_neg (by decide), hn, if_pos hm]
      rw [e1]
      rcases hm with hm | hm
      · have t1 : decide (m < 0) = true := decide_eq_true hm
        clear e1 hsa hn hfu hsh hsb hs1 hb1 hf1 hend
        go_enter Tryz.func38, Tryz.ntmps38
        go_wp2_with (first | (go_at_call 107; refine hdes.mono ?_; rintro ee w1 ⟨hw1, rfl⟩; obtain rfl := hw1.symm) | ((with_reducible show wpList _ _ _ (⟨_, .store 41 _ _, _, _, _, _⟩ :: _) _ _); refine st_storeBox stRat rfl rfl b0 rfl rfl (one3 _ _ _ _ _ _ _) ?_; intro w3 r1 r2))
        exact bodyPost_ret (results_box2 rfl rfl stRat r1 rfl) rfl ⟨ExtX.box hE r2 (by omega), _, rfl, QC.zero _⟩
      · have t1 : decide (m < 0) = false := decide_eq_false (by omega)
        have t2 : decide ((n : Int) < m) = true := decide_eq_true hm
        clear e1 hsa hn hfu hsh hsb hs1 hb1 hf1 hend
        go_enter Tryz.func38, Tryz.ntmps38
        go_wp2_with (first | (go_at_call 107; refine hdes.mono ?_; rintro ee w1 ⟨hw1, rfl⟩; obtain rfl := hw1.symm) | ((with_reducible show wpList _ _ _ (⟨_, .store 41 _ _, _, _, _, _⟩ :: _) _ _); refine st_storeBox stRat rfl rfl b0 rfl rfl (one3 _ _ _ _ _ _ _) ?_; intro w3 r1 r2))
        exact bodyPost_ret (results_box2 rfl rfl stRat r1 rfl) rfl ⟨ExtX.box hE r2 (by omega), _, rfl, QC.zero _⟩
    · have t1 : decide (m < 0) = false := decide_eq_false (by omega)
      have t2 : decide ((n : Int) < m) = false := decide_eq_false (by omega)
      by_cases hr : (redP x (colsL x)).2.length = colsL x
      · have e1 : shE x m = 0 := by unfold shE; rw [hd, if_neg (by decide), hn, if_neg hm, if_pos hr]
        rw [e1]
        rw [decide_eq_true hr] at hf1
        obtain ⟨k, rfl⟩ := Int.eq_ofNat_of_zero_le (show 0 <= m by omega)
        rw [show ((k : Nat) : Int).toNat = k from rfl]
        obtain ⟨c, hc⟩ : ∃ c, colsL x = c := ⟨_, rfl⟩
        rw [hc] at hs1 hb1 |-
        clear e1 hsa hn hfu hsh hsb hend hr hd hc
        go_enter Tryz.func38, Tryz.ntmps38
        go_wp2_with (first | (go_at_call 107; refine hdes.mono ?_; rintro ee w1 ⟨hw1, rfl⟩; obtain rfl := hw1.symm) | (go_at_call 108; refine hf1.mono ?_; rintro ee w2 ⟨t2', rfl⟩) | (go_at_call 106; refine (hs1.out w2 t2').mono ?_; rintro ee w3 ⟨t3, oo, oc, rfl, hoc, hsl⟩; have hoh : Hd oo (n + 1) := (by have := hsl.hd; simpa using this); have hkl : k < ((List.range (n + 1)).map fun m => shareL x c m).length := (by simp; omega)) | (with_reducible refine up_ixn slRat (by omega) (by assumption) ?_) | ((with_reducible show wpList _ _ _ (⟨_, .load 41 _, _, _, _, _⟩ :: _) _ _); refine st_loadElem stRat k hsl hkl rfl (by simp) QC.agg ?_; intro u5 hu5; rw [List.getElem_map, List.getElem_range] at hu5; obtain ⟨sv, av, nv, cv, dv, kv, ev, rfl⟩ := hu5.shape) | (go_at_call 109; (with_reducible refine (eclean (hidB X b 1) w3 _ _ (hXW.ext (t2'.trans t3)) (hu5.qv (hb1.out k))).mono ?_); rintro ee w4 ⟨t4, u6, rfl, hu6⟩; obtain ⟨s6, a6, n6, c6, d6, k6, e6, rfl⟩ := hu6.shape; have bb := b0.ext0 (t2'.trans (t3.trans t4))) | ((with_reducible show wpList _ _ _ (⟨_, .store 41 _ _, _, _, _, _⟩ :: _) _ _); refine st_storeBox stRat rfl rfl bb rfl rfl (one3 _ _ _ _ _ _ _) ?_; intro w5 r1 r2))
        have h7 := QC.mono _ _ _ _ le_unbox (QC.mono _ _ _ _ (le_store r2 (by omega) (by omega)) hu6)
        exact bodyPost_ret (results_box2 rfl rfl stRat r1 rfl) rfl ⟨ExtX.box (hE.trans (t2'.trans (t3.trans t4))) r2 (by omega), _, rfl, by rw [if_pos rfl]; exact h7⟩
      · have e1 : shE x m = 7 := by unfold shE; rw [hd, if_neg (by decide), hn, if_neg hm, if_neg hr]
        rw [e1]
        rw [decide_eq_false hr] at hf1
        clear e1 hsa hn hfu hsh hsb hs1 hb1 hend hr hd
        go_enter Tryz.func38, Tryz.ntmps38
        go_wp2_with (first | (go_at_call 107; refine hdes.mono ?_; rintro ee w1 ⟨hw1, rfl⟩; obtain rfl := hw1.symm) | (go_at_call 108; refine hf1.mono ?_; rintro ee w2 ⟨t2', rfl⟩; have bb := b0.ext0 t2') | ((with_reducible show wpList _ _ _ (⟨_, .store 41 _ _, _, _, _, _⟩ :: _) _ _); refine st_storeBox stRat rfl rfl bb rfl rfl (one3 _ _ _ _ _ _ _) ?_; intro w3 r1 r2))
        exact bodyPost_ret (results_box2 rfl rfl stRat r1 rfl) rfl ⟨ExtX.box (hE.trans t2') r2 (by omega), _, rfl, QC.zero _⟩
  · have hd0 : dsgB x = false := by cases h : dsgB x <;> simp_all
    have e1 : shE x m = 6 := by unfold shE; rw [hd0, if_pos rfl]
    rw [e1]
    rw [hd0] at hdes
    clear e1 hsa hn hfu hsh hsb hend hd hd0
    go_enter Tryz.func38, Tryz.ntmps38
    go_wp2_with (first | (go_at_call 107; refine hdes.mono ?_; rintro ee w1 ⟨hw1, rfl⟩; obtain rfl := hw1.symm) | ((with_reducible show wpList _ _ _ (⟨_, .store 41 _ _, _, _, _, _⟩ :: _) _ _); refine st_storeBox stRat rfl rfl b0 rfl rfl (one3 _ _ _ _ _ _ _) ?_; intro w3 r1 r2))
    exact bodyPost_ret (results_box2 rfl rfl stRat r1 rfl) rfl ⟨ExtX.box hE r2 (by omega), _, rfl, QC.zero _⟩
end Go.Proofs.YtnnpfhoigmegcaaGreat
namespace Go.Lin
open Go.Lim Go.Rep
def RespAt (x : Mat) (c m : Nat) : Prop := m <= x.length /\ ¬ shareL x c m < ((1 : Int) : Rat) / ((2 : Int) : Rat) /\ ∀ j, j < m -> shareL x c j < ((1 : Int) : Rat) / ((2 : Int) : Rat)
theorem RespAt.uniq {x : Mat} {c m k : Nat} (h : RespAt x c m) (h' : RespAt x c k) : m = k := by
  rcases Nat.lt_trichotomy m k with hl | hl | hl
  · exact absurd (h'.2.2 m hl) h.2.1
  · exact hl
  · exact absurd (h.2.2 k hl) h'.2.1
theorem share_half {n c : Nat} {x : Mat} (hs : Shp n c x) (hc : 1 <= c) (hf : FullR x c) : ¬ shareL x c n < ((1 : Int) : Rat) / ((2 : Int) : Rat) := by
  have h := share_all hs hc hf
  rw [hs.1] at h
  rw [h]
  decide +kernel
end Go.Lin
namespace Go.Proofs.YtnnpfhoigmegcaaGreat
open Go.RowKit Go.Rep Go.Lim Go.Lin
def RespOut (w : World) (x : Mat) (er : Int) (e : Ending) (w' : World) : Prop := Ext w w' /\ ∃ m : Nat, e = .returned (.tuple #[.int .i64 (m : Int), .int .i64 er]) /\ (er = 0 -> RespAt x (colsL x) m) /\ (er ≠ 0 -> m = 0)
set_option maxRecDepth 100000 in
set_option maxHeartbeats 3200000 in
theorem bresp (X : Nat -> Bool) (w : World) (u : Value) (x : List (List Rat)) (B : Nat) (hX : HX X w) (hu : MV (mk X w) u x) (hn8 : x.length <= 8) (hB : BM B x) (hB1 : 1 <= B) (hBB : B <= 1000) :
    Calls Tryz.prog 36 #[u] w (RespOut w x (shE x 0)) := by
  have hsh := bshare X w u x 0 B hX hu hn8 hB hB1 hBB
  unfold ShOutB at hsh
  by_cases h0 : shE x 0 = 0
  · have hd : dsgB x = true := by
      cases h : dsgB x
      · unfold shE at h0; rw [h, if_pos rfl] at h0; exact absurd h0 (by decide)
      · rfl
    obtain ⟨hs, h1, h64, hc1, hc4⟩ := dsg_shp hd
    have hr : (redP x (colsL x)).2.length = colsL x := by
      apply Classical.byContradiction
      intro hr
      unfold shE at h0
      rw [hd, if_neg (by decide), if_neg (by omega), if_neg hr] at h0
      exact absurd h0 (by decide)
    have hfull := full_of hs (by omega)
    have hhalf := hid (share_half hs hc1 hfull)
    have hls := hid fun w1 (h : Ext w w1) => bshares X w1 u x B (hX.ext h) (mkx MV.mono hu h) hd hn8 hB hB1 hBB
    have hsb := hid fun m' => (by
      rcases (foldQ ((raysL x (colsL x)).map fun d => partL x (colsL x) d m') 0).2.2 with e | e
      · unfold shareL; rw [e, hq_zero]; decide
      · obtain ⟨d, hd', e2⟩ := List.mem_map.1 e
        have hdB : BR 42875000 d := fun q hq => by
          have := (rays_mem hs rfl hc1 hc4 (bm_hb hB hB1) hBB hd').2 q hq
          have h2 := Nat.mul_le_mul_left 42875 hBB
          omega
        have := part_hq hs hn8 hc4 hB hBB hdB m'
        unfold shareL
        rw [<- e2]; exact Nat.le_trans this (by decide) : hq (shareL x (colsL x) m') <= 68719476736)
    rw [h0] at hsh |-
    obtain ⟨c, hc⟩ : ∃ c, colsL x = c := ⟨_, rfl⟩
    obtain ⟨n, hn⟩ : ∃ n, x.length = n := ⟨_, rfl⟩
    have hc' := hid hc
    rw [hc] at hsh hhalf hls hsb
    rw [hn] at hhalf hls hn8
    have hn' := hid hn
    have hresp : Hid (∀ m, m <= n -> ¬ shareL x c m < ((1 : Int) : Rat) / ((2 : Int) : Rat) -> (∀ j, j < m -> shareL x c j < ((1 : Int) : Rat) / ((2 : Int) : Rat)) -> RespAt x c m) := hid fun m a b d => ⟨by rw [hn]; exact a, b, d⟩
    have hov := hid fun w1 (h : Ext w w1) => eover X w1 1 2 (hX.ext h) (by decide) (by decide) (by decide) (by decide)
    obtain ⟨hf, hhf⟩ : ∃ q, ((1 : Int) : Rat) / ((2 : Int) : Rat) = q := ⟨_, rfl⟩
    have hhq : Hid (hq hf <= 68719476736) := hid (by rw [<- hhf]; decide +kernel)
    rw [hhf] at hhalf hov hresp
    clear hr hfull hd hs h0 hhf hn hc hu hB
    go_enter Tryz.func36, Tryz.ntmps36
    go_wp2_with (first
      | (go_at_call 38; refine hsh.mono ?_; rintro ee w1 ⟨t1, u1, rfl, hu1⟩; obtain ⟨s1, a1, n1, c1, d1, k1, e1, rfl⟩ := hu1.shape; have bx := Bx.new w1 #[.bool false, .slice none 0 0, .slice none 0 0] 41)
      | ((with_reducible show wpList _ _ _ (⟨_, .store 41 _ _, _, _, _, _⟩ :: _) _ _); refine st_storeBox stRat rfl rfl bx rfl rfl (one3 _ _ _ _ _ _ _) ?_; intro w2 r1 r2; have hE2 : Ext w1 w2 := ExtX.box ((ExtX.refl w1).alloc _) r2 (Nat.le_refl _); have t2 := t1.trans hE2; clear bx r1 r2)
      | (go_at_call 105; refine (hov.out w2 t2).mono ?_; rintro ee w3 ⟨t3, u3, rfl, hu3⟩; obtain ⟨s3, a3, n3, c3, d3, k3, e3, rfl⟩ := hu3.shape; have bx := Bx.new w3 #[.bool false, .slice none 0 0, .slice none 0 0] 41)
      | ((with_reducible show wpList _ _ _ (⟨_, .store 41 _ _, _, _, _, _⟩ :: _) _ _); refine st_storeBox stRat rfl rfl bx rfl rfl (one3 _ _ _ _ _ _ _) ?_; intro w4 r3 r4; have hE4 : Ext w3 w4 := ExtX.box ((ExtX.refl w3).alloc _) r4 (Nat.le_refl _); have t4 := t2.trans (t3.trans hE4); clear bx r4)
      | (go_at_call 106; refine (hls.out w4 t4).mono ?_; rintro ee w5 ⟨t5, oo, oc, rfl, hoc, hsl⟩))
    have t45 := t4.trans t5
    obtain ⟨bh, hbh⟩ : ∃ bh, w3.heap.size = bh := ⟨_, rfl⟩
    rw [hbh] at r3
    (try rw [hbh])
    have r5 := r3.ext0 t5
    have hh5 := mkx QC.mono hu3 (hE4.trans t5)
    have hX5 := hX.ext t45
    have hoh : Hd oo (n + 1) := by have := hsl.hd; simpa using this
    clear hsh hls hov t1 t2 t3 t4 t5 hE2 hE4 r3 hu1 hu3 hbh
    go_loopw [8] (fun cc wr => ∃ m : Nat, cc = .int .i64 m /\ m <= n /\ Hid (∀ j, j < m -> shareL x c j < hf) /\ Ext w5 wr) (fun cc _ => n - (intOf cc).toNat)
    case atStart => exact ⟨0, rfl, Nat.zero_le _, hid (fun j hj => absurd hj (Nat.not_lt_zero _)), ExtX.refl _⟩
    case round =>
      obtain ⟨m, rfl, hm, hlow, hE⟩ := hrel
      have hml : m < ((List.range (n + 1)).map fun m => shareL x c m).length := by simp; omega
      obtain ⟨g1, o1, s1, a1, n1, c1, d1, k1, e1, hg1, hy1, hc1, hq1⟩ := (hsl.mono QC.mono (mk_ext hE)).rat QC.shaped m hml
      rw [List.getElem_map, List.getElem_range] at hq1
      have i1 : ∀ W, (Instr.indexAt 26 (.slice oo (n + 1) oc) (.int .i64 (m : Int))).run Tryz.prog W = .ok (.pointer (some ⟨g1, o1, none⟩)) W := by
        rw [<- hg1]; exact run_indexAt_adr slRat oo (n + 1) oc .i64 m hoh (by omega)
      have hEd : Ext wr wr.drew := (ExtX.refl wr).drew
      have r5r := r5.ext0 (hE.trans hEd)
      have hwS : wr.drew.cell? ⟨g1, o1, none⟩ = some (.bool s1) /\ wr.drew.cell? ⟨g1, o1 + 1, none⟩ = some (.slice a1 n1 c1) /\ wr.drew.cell? ⟨g1, o1 + 2, none⟩ = some (.slice d1 k1 e1) /\ wr.drew.cell? ⟨bh, 0, none⟩ = some (.bool s3) /\ wr.drew.cell? ⟨bh, 1, none⟩ = some (.slice a3 n3 c3) /\ wr.drew.cell? ⟨bh, 2, none⟩ = some (.slice d3 k3 e3) := by
        have z := hc1.out noY wr.drew hEd rfl
        exact ⟨z.1, z.2.1, z.2.2, r5r.cell 0 rfl, r5r.cell 1 rfl, r5r.cell 2 rfl⟩
      have hle6 := eless X wr.drew _ _ (shareL x c m) hf (hX5.ext (hE.trans hEd)) ((mkx QC.mono hq1 hEd).qv (hsb.out m)) ((mkx QC.mono hh5 (hE.trans hEd)).qv hhq.out)
      rw [show decide (cmpQ (shareL x c m) hf < 0) = ltQ (shareL x c m) hf from rfl] at hle6
      have hlt1 := hid fun (h : ltQ (shareL x c m) hf = true) => (ltQ_iff.1 h : shareL x c m < hf)
      have hlt2 := hid fun (h : ltQ (shareL x c m) hf = false) => (show ¬ shareL x c m < hf from fun h2 => by rw [ltQ_iff.2 h2] at h; exact absurd h (by decide))
      obtain ⟨bb, hbb⟩ : ∃ bb, ltQ (shareL x c m) hf = bb := ⟨_, rfl⟩
      rw [hbb] at hle6 hlt1 hlt2
      clear hc1 hq1 hg1 hy1 hbb r5r
      go_upto_region 7 with fail
      (try simp only [Act.put])
      refine wp_region_K 5 (fun w' => w'.cell? ⟨g1, o1, none⟩ = some (.bool s1) /\ w'.cell? ⟨g1, o1 + 1, none⟩ = some (.slice a1 n1 c1) /\ w'.cell? ⟨g1, o1 + 2, none⟩ = some (.slice d1 k1 e1) /\ w'.cell? ⟨bh, 0, none⟩ = some (.bool s3) /\ w'.cell? ⟨bh, 1, none⟩ = some (.slice a3 n3 c3) /\ w'.cell? ⟨bh, 2, none⟩ = some (.slice d3 k3 e3)) (by kernel_rfl) (by kernel_rfl) hwS (fun hHeld hOnce => ?_)
      refine kt 0 hOnce ?_
      refine kt 1 hOnce ?_
      refine kt 2 hOnce ?_
      refine kt 3 hOnce ?_
      refine kt 4 hOnce ?_
      refine kl 5 (fun K hK => ?_)
      go_simp
      (with_reducible refine hle6.mono ?_)
      rintro ee w6 ⟨g6, rfl⟩
      refine hK.out _ _ ?_
      clear hK K
      (try simp only [Act.put])
      have hE6 := hE.trans (hEd.trans g6)
      clear hHeld hwS hOnce i1 hle6
      cases bb with
      | true =>
        have hl1 := hlt1.out rfl
        have hmn : m < n := by
          rcases Nat.lt_or_ge m n with h | h
          · exact h
          · have : m = n := by omega
            subst this
            exact absurd hl1 hhalf.out
        have hlow2 : Hid (∀ j, j < m + 1 -> shareL x c j < hf) := hid fun j hj => by
          rcases Nat.lt_or_ge j m with h | h
          · exact hlow.out j h
          · have : j = m := by omega
            rw [this]; exact hl1
        clear hl1
        go_wp2_with fail
        go_roundw
        case rel => exact ⟨m + 1, by go_num, by omega, hlow2, hE6⟩
        case measure => simp [intOf]; omega
      | false =>
        have hR' : Hid (RespAt x c m) := hid (hresp.out m hm (hlt2.out rfl) hlow.out)
        go_wp2_with fail
        go_ret2
        exact ⟨t45.trans hE6, m, rfl, fun _ => by rw [hc'.out]; exact hR'.out, fun h => absurd rfl h⟩
  · obtain ⟨er, her⟩ : ∃ er, shE x 0 = er := ⟨_, rfl⟩
    rw [her] at hsh h0 |-
    have hne : (er != (0 : Int)) = true := bneT h0
    clear her hu hB hX
    go_enter Tryz.func36, Tryz.ntmps36
    go_wp2_with (first | (go_at_call 38; refine hsh.mono ?_; rintro ee w1 ⟨t1, u1, rfl, hu1⟩; obtain ⟨s1, a1, n1, c1, d1, k1, e1, rfl⟩ := hu1.shape; have bx := Bx.new w1 #[.bool false, .slice none 0 0, .slice none 0 0] 41) | ((with_reducible show wpList _ _ _ (⟨_, .store 41 _ _, _, _, _, _⟩ :: _) _ _); refine st_storeBox stRat rfl rfl bx rfl rfl (one3 _ _ _ _ _ _ _) ?_; intro w2 r1 r2))
    have hE2 : Ext w1 w2 := ExtX.box ((ExtX.refl w1).alloc _) r2 (Nat.le_refl _)
    go_ret2
    exact ⟨t1.trans hE2, 0, rfl, fun h => absurd h h0, fun _ => rfl⟩
end Go.Proofs.YtnnpfhoigmegcaaGreat
namespace Go
section
variable {P : Program} {ops : Array Oper} {Q : Exit -> Act -> World -> Prop} {md : Region.Mode} {S : World -> Prop} {n : Nat}
def cntF (l : Array Bool) : Nat := l.toList.count false
def invB {T : Type} [DecidableEq T] (md : Region.Mode) (ops : Array Oper) (all : List T) (L : T -> Array Bool) (next : T -> Nat -> Option T) (fin : T -> Bool) : Bool :=
  all.all fun s => fin s || (!(Region.ready md ops (L s)).isEmpty && (Region.ready md ops (L s)).all fun i => match next s i with
    | some t => decide (t ∈ all) && decide (L t = (L s).setIfInBounds i true) && decide (cntF (L t) + 1 = cntF (L s))
    | none => false)
theorem wpOp_stepJ {i : Nat} {o : Oper} {K : Act -> World -> Prop} {a : Act} {w : World} (ho : ops[i]? = some o)
    (h : ∀ K' : Act -> World -> Prop, Shut (∀ a w, K a w -> K' a w) -> if Region.wanted o (yielded ops a.tmps) = true then Oper.wp P o a w K' Q else K' (a.put o.dst undef) w) : wpOp P ops Q i K a w := wpOp_step ho fun K' hK => h K' hK
theorem wpAnyK_inv {T : Type} [DecidableEq T] {I : T -> Act -> World -> Prop} (all : List T) (L : T -> Array Bool) (next : T -> Nat -> Option T) (fin : T -> Bool) (hc : invB md ops all L next fin = true)
    (hstep : ∀ s i t a w, s ∈ all -> next s i = some t -> I s a w -> wpOp P ops Q i (fun a' w' => S w' /\ I t a' w') a w)
    (hexit : ∀ s a w, s ∈ all -> fin s = true -> I s a w -> wpAnyK P md ops Q S n (cntF (L s)) (L s) a w) :
    ∀ (fuel : Nat) (s : T) (a : Act) (w : World), s ∈ all -> cntF (L s) = fuel -> I s a w -> wpAnyK P md ops Q S n fuel (L s) a w := by
  intro fuel
  induction fuel with
  | zero =>
    intro s a w hs hf hI
    have h := List.all_eq_true.1 hc s hs
    cases hfin : fin s
    · rw [hfin, Bool.false_or] at h
      obtain ⟨h1, h2⟩ := (Bool.and_eq_true _ _).mp h
      cases hr : Region.ready md ops (L s) with
      | nil => rw [hr] at h1; cases h1
      | cons i r =>
        have h3 := List.all_eq_true.1 h2 i (by rw [hr]; exact List.mem_cons_self)
        cases hn : next s i with
        | none => rw [hn] at h3; cases h3
        | some t =>
          rw [hn] at h3
          obtain ⟨_, h5⟩ := (Bool.and_eq_true _ _).mp h3
          have := of_decide_eq_true h5
          omega
    · have := hexit s a w hs hfin hI
      rwa [hf] at this
  | succ fuel ih =>
    intro s a w hs hf hI
    have h := List.all_eq_true.1 hc s hs
    cases hfin : fin s
    · rw [hfin, Bool.false_or] at h
      obtain ⟨h1, h2⟩ := (Bool.and_eq_true _ _).mp h
      refine ⟨fun h0 => (by rw [h0] at h1; cases h1), fun i hi => ?_⟩
      have h3 := List.all_eq_true.1 h2 i hi
      cases hn : next s i with
      | none => rw [hn] at h3; cases h3
      | some t =>
        rw [hn] at h3
        obtain ⟨h4, h5⟩ := (Bool.and_eq_true _ _).mp h3
        obtain ⟨h6, h7⟩ := (Bool.and_eq_true _ _).mp h4
        have e1 := of_decide_eq_true h5
        have e2 := of_decide_eq_true h6
        have e3 := of_decide_eq_true h7
        refine wpOp_mono (fun a' w' h => ⟨fun _ => h.1, ?_⟩) (hstep s i t a w hs hn hI)
        rw [<- e3]
        exact ih t a' w' e2 (by omega) h.2
    · have := hexit s a w hs hfin hI
      rwa [hf] at this
end
end Go
namespace Go.Lin
open Go.Lim Go.Rep
def P35 : Mat := [[1, 0], [1, 0], [1, 5]]
def O35 : Mat := [[1], [1], [1]]
theorem bm_of {B : Nat} {m : Mat} (h : (m.all fun r => r.all fun q => decide (Go.Lim.hq q <= B)) = true) : BM B m := fun r hr q hq => by
  rw [List.all_eq_true] at h
  have := h r hr
  rw [List.all_eq_true] at this
  simpa using this q hq
theorem P35_bm : BM 2 P35 := bm_of (by decide +kernel)
theorem O35_bm : BM 2 O35 := bm_of (by decide +kernel)
theorem P35_d : dsgB P35 = true := by decide +kernel
theorem O35_d : dsgB O35 = true := by decide +kernel
theorem P35_rank : (redP P35 2).2.length = 2 := by decide +kernel
theorem O35_rank : (redP O35 1).2.length = 1 := by decide +kernel
theorem P35_rays : raysL P35 2 = [[0, 1], [0, 1], [-5, 1]] := by
  unfold raysL
  rw [if_neg (by decide)]
  have h1 : nullM ([[1, 0]] : Mat) 2 = [[0, 1]] := by unfold nullM; decide +kernel
  have h2 : nullM ([[1, 5]] : Mat) 2 = [[-5, 1]] := by unfold nullM; decide +kernel
  have e : combs P35.length (2 - 1) 0 = [[0], [1], [2]] := by decide
  rw [e]
  have r0 : rayO P35 2 [0] = some [0, 1] := by
    show (match nullM ([[1, 0]] : Mat) 2 with | [d] => some d | _ => none) = _
    rw [h1]
  have r1 : rayO P35 2 [1] = some [0, 1] := by
    show (match nullM ([[1, 0]] : Mat) 2 with | [d] => some d | _ => none) = _
    rw [h1]
  have r2 : rayO P35 2 [2] = some [-5, 1] := by
    show (match nullM ([[1, 5]] : Mat) 2 with | [d] => some d | _ => none) = _
    rw [h2]
  simp [r0, r1, r2]
theorem P35_plane : plN P35 = 2 /\ plE P35 = 0 := by
  have hc : colsL P35 = 2 := by decide
  refine ⟨?_, by unfold plE; rw [P35_d, if_pos rfl]⟩
  unfold plN
  rw [P35_d, if_pos rfl, hc]
  unfold planeL
  rw [P35_rank, if_neg (by decide), P35_rays]
  decide +kernel
theorem O35_share (m : Nat) (h : m <= 3) : shareL O35 1 m = ((m : Int) : Rat) / ((3 : Int) : Rat) := by
  have hr : raysL O35 1 = [[1]] := by unfold raysL; rw [if_pos rfl]
  have ha : absP O35 1 [1] = [1, 1, 1] := by decide +kernel
  have hs : srt [1, 1, 1] = [1, 1, 1] := (srt_uniq (List.Perm.refl _) (by decide +kernel)).symm
  have hp : ∀ m, partL O35 1 [1] m = sumL (([1, 1, 1] : List Rat).drop (3 - m)) / sumL [1, 1, 1] := fun m => by
    unfold partL topS
    rw [ha, hs]; rfl
  have : m = 0 \/ m = 1 \/ m = 2 \/ m = 3 := by omega
  unfold shareL
  rw [hr, List.map_singleton, hp]
  rcases this with rfl | rfl | rfl | rfl <;> decide +kernel
theorem O35_resp : RespAt O35 (colsL O35) 2 /\ shE O35 0 = 0 := by
  have hc : colsL O35 = 1 := by decide
  refine ⟨?_, by unfold shE; rw [O35_d, if_neg (by decide), if_neg (by decide), hc, O35_rank, if_pos rfl]⟩
  rw [hc]
  refine ⟨by decide, by rw [O35_share 2 (by decide)]; decide +kernel, fun j hj => ?_⟩
  have : j = 0 \/ j = 1 := by omega
  rcases this with rfl | rfl
  · rw [O35_share 0 (by decide)]; decide +kernel
  · rw [O35_share 1 (by decide)]; decide +kernel
end Go.Lin
namespace Go.Proofs.YtnnpfhoigmegcaaGreat
open Go.RowKit Go.Rep Go.Lim Go.Lin
theorem rv_lit (w : World) (us : List Value) (l : List Rat) (arr : Array Value) (e : TypeId) (k : Nat) (harr : arr = (us.flatMap cellsL).toArray) (hlen : us.length = l.length) (hk : l.length = k) (h : ∀ i (hi : i < us.length) (hi' : i < l.length), QC (mk noY w) us[i] l[i]) (hl : l.length <= 1000) (hB : BR 68719476736 l) :
    RV (mk noY (w.alloc (.cells arr e))) (.slice (some ⟨w.heap.size, 0, none⟩) k k) l := by
  have hO := OL.lit QC.elem (HX.none w) (Nat.le_refl _) us l (e := e) arr harr hlen (fun i hi hi' => h i hi hi') (by omega)
  have hc := hO.lenCap
  subst hk
  exact ⟨_, _, rfl, Nat.le_refl _, (hO.sl QC.elem).qv hB⟩
theorem mv_lit (w : World) (us : List Value) (m : Mat) (arr : Array Value) (e : TypeId) (k : Nat) (harr : arr = us.toArray) (hlen : us.length = m.length) (hk : m.length = k) (h : ∀ i (hi : i < us.length) (hi' : i < m.length), RV (mk noY w) us[i] m[i]) (hl : m.length <= 1000) :
    MV (mk noY (w.alloc (.cells arr e))) (.slice (some ⟨w.heap.size, 0, none⟩) k k) m := by
  have hO := OL.lit RV.elem (HX.none w) (Nat.le_refl _) us m (e := e) arr (by
    rw [harr]
    congr 1
    have : ∀ u ∈ us, cellsL u = [u] := fun u hu => by
      obtain ⟨i, hi, rfl⟩ := List.getElem_of_mem hu
      obtain ⟨ao, c, he, _⟩ := h i hi (by omega)
      rw [he]; rfl
    clear harr hlen hk h hl
    induction us with
    | nil => rfl
    | cons a us ih => rw [List.flatMap_cons, this a List.mem_cons_self, <- ih fun u hu => this u (List.mem_cons_of_mem _ hu)]; rfl) hlen (fun i hi hi' => h i hi hi') (by omega)
  subst hk
  exact ⟨_, _, rfl, Nat.le_refl _, hO.sl RV.elem⟩
abbrev TJb := Bool × Bool × Bool × Bool
def allJb : List TJb := [true, false].flatMap fun b2 => [true, false].flatMap fun b5 => [(b2, b5, false, false), (b2, b5, true, false), (b2, b5, true, true)]
def lJb (s : TJb) : Array Bool := #[true, true, s.1, true, true, s.2.1, true, s.2.2.1, s.2.2.2, false, false, false, false, false, false, false]
def nextJb (s : TJb) (i : Nat) : Option TJb :=
  if i = 2 /\ s.1 = false then some (true, s.2) else if i = 5 /\ s.2.1 = false then some (s.1, true, s.2.2) else if i = 7 /\ s.2.2.1 = false then some (s.1, s.2.1, true, s.2.2.2)
  else if i = 8 /\ s.2.2.2 = false /\ s.2.2.1 = true then some (s.1, s.2.1, s.2.2.1, true) else none
def finJb (s : TJb) : Bool := s.1 && s.2.1 && s.2.2.2
def fourJ (a : Act) (v2 v5 v7 v8 : Value) : Act := (((a.put (some 19) v2).put (some 22) v5).put (some 24) v7).put (some 25) v8
theorem allJb_four : ∀ s ∈ allJb, s.2.2.2 = true -> s.2.2.1 = true := by decide
theorem act_startB {P : Program} {ops : Array Oper} {Q : Exit -> Act -> World -> Prop} {md : Region.Mode} {S : World -> Prop} {n f : Nat} {l : Array Bool} {a : Act} {w : World} (h : ∀ a0, a0 = a -> wpAnyK P md ops Q S n f l a0 w) : wpAnyK P md ops Q S n f l a w := h a rfl
set_option maxRecDepth 100000 in
set_option maxHeartbeats 3200000 in
theorem awake35_any (w : World) : Calls Tryz.prog 33 #[] w (BOut w true) := by
  have hloc := hid fun w1 => (by
    have h := blocation w1 2 0 5 (by decide) (by decide)
    rw [show locN 2 0 5 = 3 by decide, show locE 2 0 5 = 0 by decide] at h
    exact h : Calls Tryz.prog 31 #[.agg #[.int .i64 2, .int .i64 0], .int .i64 5] w1 (fun e w' => Ext w1 w' /\ e = .returned (.tuple #[.int .i64 3, .int .i64 0])))
  have hpla := hid fun w1 u (hu : MV (mk noY w1) u P35) => (by
    have h := bplane noY w1 u P35 2 (HX.none w1) hu (by decide) P35_bm (by decide) (by decide)
    rw [P35_plane.1, P35_plane.2] at h
    exact h : Calls Tryz.prog 50 #[u] w1 (fun e w' => Ext w1 w' /\ e = .returned (.tuple #[.int .i64 2, .int .i64 0])))
  have hres := hid fun w1 u (hu : MV (mk noY w1) u O35) => ((bresp noY w1 u O35 2 (HX.none w1) hu (by decide) O35_bm (by decide) (by decide)).mono fun e w' ⟨hE, m, he, h1, _⟩ => (by
    rw [O35_resp.2] at he h1
    obtain rfl := (h1 rfl).uniq O35_resp.1
    exact ⟨hE, he⟩ : Ext w1 w' /\ e = .returned (.tuple #[.int .i64 2, .int .i64 0])) : Calls Tryz.prog 36 #[u] w1 (fun e w' => Ext w1 w' /\ e = .returned (.tuple #[.int .i64 2, .int .i64 0])))
  have h11 : Hid ((((1 : Int) : Rat)) = 1) := hid (by decide +kernel)
  have h55 : Hid ((((5 : Int) : Rat)) = 5) := hid (by decide +kernel)
  go_enter Tryz.func33, Tryz.ntmps33
  go_wp2_with fail
  refine (rqfrom noY w 1 (HX.none w) (by decide) (by decide)).mono ?_
  rintro e w1 ⟨hE1, u1, rfl, hu1⟩
  rw [h11.out] at hu1
  obtain ⟨s1, a1, n1, c1, d1, k1, e1, rfl⟩ := hu1.shape
  obtain ⟨w2, hw2, t2, x1, x2, hz2⟩ := boxes2 w1 #[.bool false, .slice none 0 0, .slice none 0 0] #[.bool false, .slice none 0 0, .slice none 0 0] 41 41
  go_wp2_with (first
    | ((with_reducible show wpList _ _ _ (⟨_, .store 41 _ _, _, _, _, _⟩ :: _) _ _); refine st_storeBox stRat rfl rfl x1 rfl rfl (one3 _ _ _ _ _ _ _) ?_; intro w3 r1 y1; have x23 := x2.ext y1 (ob_other (by omega)))
    | ((with_reducible show wpList _ _ _ (⟨_, .store 41 _ _, _, _, _, _⟩ :: _) _ _); refine st_storeBox stRat rfl rfl x23 rfl rfl (one3 _ _ _ _ _ _ _) ?_; intro w4 r2 y2)
    | (go_at_call 31; refine (hloc.out w4).mono ?_; rintro ee w5 ⟨t5, rfl⟩))
  have hE25 : Ext w4 w5 := t5
  have hE14 : Ext w1 w4 := ExtX.box (ExtX.box t2 y1 (Nat.le_refl _)) y2 (by omega)
  have r14 := (r1.ext y2 (ob_other (by omega))).ext0 t5
  have r24 := r2.ext0 t5
  obtain ⟨g1, hg1⟩ : ∃ g, w1.heap.size = g := ⟨_, rfl⟩
  rw [hg1] at r14 r24
  (try rw [hg1])
  obtain ⟨g2, hg2⟩ : ∃ g, g1 + 1 = g := ⟨_, rfl⟩
  rw [hg2] at r24
  (try rw [hg2])
  have hu5 := mkx QC.mono hu1 (hE14.trans t5)
  have hEw5 := hE1.trans (hE14.trans t5)
  clear hw2 t2 x1 x2 hz2 r1 r2 y1 y2 x23 hu1 hE14 hE25 t5 hE1 hg1 hg2 hloc
  have hEd : Ext w5 w5.drew := (ExtX.refl w5).drew
  have hS0 := hid fun w' (h : Ext w5 w') => (⟨(r14.ext0 h).cell 0 rfl, (r14.ext0 h).cell 1 rfl, (r14.ext0 h).cell 2 rfl, (r24.ext0 h).cell 0 rfl, (r24.ext0 h).cell 1 rfl, (r24.ext0 h).cell 2 rfl⟩ : w'.cell? ⟨g1, 0, none⟩ = some (.bool s1) /\ w'.cell? ⟨g1, 1, none⟩ = some (.slice a1 n1 c1) /\ w'.cell? ⟨g1, 2, none⟩ = some (.slice d1 k1 e1) /\ w'.cell? ⟨g2, 0, none⟩ = some (.bool false) /\ w'.cell? ⟨g2, 1, none⟩ = some (.slice none 0 0) /\ w'.cell? ⟨g2, 2, none⟩ = some (.slice none 0 0))
  go_upto_region 3 with fail
  (try simp only [Act.put])
  refine wp_region_K 15 (fun w' => w'.cell? ⟨g1, 0, none⟩ = some (.bool s1) /\ w'.cell? ⟨g1, 1, none⟩ = some (.slice a1 n1 c1) /\ w'.cell? ⟨g1, 2, none⟩ = some (.slice d1 k1 e1) /\ w'.cell? ⟨g2, 0, none⟩ = some (.bool false) /\ w'.cell? ⟨g2, 1, none⟩ = some (.slice none 0 0) /\ w'.cell? ⟨g2, 2, none⟩ = some (.slice none 0 0)) (by kernel_rfl) (by kernel_rfl) (hS0.out _ hEd) (fun hHeld hOnce => ?_)
  have hu0 := hid (mkx QC.mono hu5 hEd)
  have hSd := hid fun w' (h : Ext w5.drew w') => hS0.out w' (hEd.trans h)
  obtain ⟨W0, hW0⟩ : ∃ W0, w5.drew = W0 := ⟨_, rfl⟩
  rw [hW0] at hHeld hSd hu0 hEd |-
  refine kt 0 hOnce ?_
  refine kt 1 hOnce ?_
  refine kt 3 hOnce ?_
  refine kt 4 hOnce ?_
  refine kt 6 hOnce ?_
  refine act_startB fun a0 ha0 => ?_
  have hrow := hid fun w' (h : Ext W0 w') => rv_lit w' [.agg #[.bool s1, .slice a1 n1 c1, .slice d1 k1 e1], .agg #[.bool false, .slice none 0 0, .slice none 0 0]] [1, 0] #[.bool s1, .slice a1 n1 c1, .slice d1 k1 e1, .bool false, .slice none 0 0, .slice none 0 0] 41 2 (by simp [cellsL, Value.cells]) rfl rfl (fun i hi hi' => by
    match i, hi, hi' with
    | 0, _, _ => exact mkx QC.mono hu0.out h
    | 1, _, _ => exact QC.zero _) (by decide) (fun q hq => by
    have : q = 1 \/ q = 0 := by simpa using hq
    rcases this with rfl | rfl <;> decide +kernel)
  have hrow5 := hid fun w' s a n c d k e (h : Ext W0 w') (h5 : QC (mk noY w') (.agg #[.bool s, .slice a n c, .slice d k e]) 5) => rv_lit w' [.agg #[.bool s1, .slice a1 n1 c1, .slice d1 k1 e1], .agg #[.bool s, .slice a n c, .slice d k e]] [1, 5] #[.bool s1, .slice a1 n1 c1, .slice d1 k1 e1, .bool s, .slice a n c, .slice d k e] 41 2 (by simp [cellsL, Value.cells]) rfl rfl (fun i hi hi' => by
    match i, hi, hi' with
    | 0, _, _ => exact mkx QC.mono hu0.out h
    | 1, _, _ => exact h5) (by decide) (fun q hq => by
    have : q = 1 \/ q = 5 := by simpa using hq
    rcases this with rfl | rfl <;> decide +kernel)
  refine wpAnyK_inv (I := fun s a w' => ∃ v2 v5 v7 v8 s5 a5 n5 c5 d5 k5 e5, a = fourJ a0 v2 v5 v7 v8 /\ Ext W0 w' /\ (s.1 = true -> RV (mk noY w') v2 [1, 0]) /\ (s.2.1 = true -> RV (mk noY w') v5 [1, 0]) /\ (s.2.2.1 = true -> v7 = .agg #[.bool s5, .slice a5 n5 c5, .slice d5 k5 e5] /\ QC (mk noY w') v7 5) /\ (s.2.2.2 = true -> RV (mk noY w') v8 [1, 5]))
    allJb lJb nextJb finJb (by kernel_rfl) ?st ?ex 11 (false, false, false, false) a0 W0 (by decide) (by decide) ?hi
  case hi =>
    subst ha0
    exact ⟨undef, undef, undef, undef, false, none, 0, 0, none, 0, 0, by simp only [fourJ, Act.put, List.setIfInBounds_toArray, List.set_cons_zero, List.set_cons_succ], ExtX.refl _, fun h => (by cases h), fun h => (by cases h), fun h => (by cases h), fun h => (by cases h)⟩
  case st =>
    rintro ⟨b2, b5, b7, b8⟩ i t a w' hs ht ⟨v2, v5, v7, v8, s5, a5, n5, c5, d5, k5, e5, rfl, hEx, f2, f5, f7, f8⟩
    have h7 := allJb_four _ hs
    dsimp only at f2 f5 f7 f8 h7
    subst ha0
    unfold nextJb at ht
    dsimp only at ht
    have hE2 : Ext w' (w'.alloc (.cells #[.bool s1, .slice a1 n1 c1, .slice d1 k1 e1, .bool false, .slice none 0 0, .slice none 0 0] 41)) := (ExtX.refl _).alloc _
    split at ht
    · rename_i hc
      obtain ⟨rfl, rfl⟩ := hc
      cases ht
      simp only [fourJ, Act.put, List.setIfInBounds_toArray, List.set_cons_zero, List.set_cons_succ]
      refine wpOp_stepJ (o := ⟨_, _, _, _, _, _⟩) rfl (fun K hK => ?_)
      go_simp
      refine hK.out _ _ ⟨hSd.out _ (hEx.trans hE2), .slice (some ⟨w'.heap.size, 0, none⟩) 2 2, v5, v7, v8, s5, a5, n5, c5, d5, k5, e5, rfl, hEx.trans hE2, fun _ => hrow.out w' hEx, fun h => mkx RV.mono (f5 h) hE2, fun h => ⟨(f7 h).1, mkx QC.mono (f7 h).2 hE2⟩, fun h => mkx RV.mono (f8 h) hE2⟩
    · split at ht
      · rename_i hc
        obtain ⟨rfl, rfl⟩ := hc
        cases ht
        simp only [fourJ, Act.put, List.setIfInBounds_toArray, List.set_cons_zero, List.set_cons_succ]
        refine wpOp_stepJ (o := ⟨_, _, _, _, _, _⟩) rfl (fun K hK => ?_)
        go_simp
        refine hK.out _ _ ⟨hSd.out _ (hEx.trans hE2), v2, .slice (some ⟨w'.heap.size, 0, none⟩) 2 2, v7, v8, s5, a5, n5, c5, d5, k5, e5, rfl, hEx.trans hE2, fun h => mkx RV.mono (f2 h) hE2, fun _ => hrow.out w' hEx, fun h => ⟨(f7 h).1, mkx QC.mono (f7 h).2 hE2⟩, fun h => mkx RV.mono (f8 h) hE2⟩
      · split at ht
        · rename_i hc
          obtain ⟨rfl, rfl⟩ := hc
          cases ht
          have hb8 : b8 = false := by cases b8 <;> simp_all
          simp only [fourJ, Act.put, List.setIfInBounds_toArray, List.set_cons_zero, List.set_cons_succ]
          refine wpOp_stepJ (o := ⟨_, _, _, _, _, _⟩) rfl (fun K hK => ?_)
          go_simp
          (with_reducible refine (rqfrom noY w' 5 (HX.none w') (by decide) (by decide)).mono ?_)
          rintro ee w3 ⟨hE3, u3, rfl, hu3⟩
          rw [h55.out] at hu3
          obtain ⟨s6, a6, n6, c6, d6, k6, e6, rfl⟩ := hu3.shape
          refine hK.out _ _ ⟨hSd.out _ (hEx.trans hE3), v2, v5, .agg #[.bool s6, .slice a6 n6 c6, .slice d6 k6 e6], v8, s6, a6, n6, c6, d6, k6, e6, rfl, hEx.trans hE3, fun h => mkx RV.mono (f2 h) hE3, fun h => mkx RV.mono (f5 h) hE3, fun _ => ⟨rfl, hu3⟩, fun h => absurd (hb8.symm.trans h) (by decide)⟩
        · split at ht
          · rename_i hc
            obtain ⟨rfl, rfl, rfl⟩ := hc
            cases ht
            obtain ⟨rfl, h5⟩ := f7 rfl
            have hE4 : Ext w' (w'.alloc (.cells #[.bool s1, .slice a1 n1 c1, .slice d1 k1 e1, .bool s5, .slice a5 n5 c5, .slice d5 k5 e5] 41)) := (ExtX.refl _).alloc _
            simp only [fourJ, Act.put, List.setIfInBounds_toArray, List.set_cons_zero, List.set_cons_succ]
            refine wpOp_stepJ (o := ⟨_, _, _, _, _, _⟩) rfl (fun K hK => ?_)
            go_simp
            refine hK.out _ _ ⟨hSd.out _ (hEx.trans hE4), v2, v5, .agg #[.bool s5, .slice a5 n5 c5, .slice d5 k5 e5], .slice (some ⟨w'.heap.size, 0, none⟩) 2 2, s5, a5, n5, c5, d5, k5, e5, rfl, hEx.trans hE4, fun h => mkx RV.mono (f2 h) hE4, fun h => mkx RV.mono (f5 h) hE4, fun _ => ⟨rfl, mkx QC.mono h5 hE4⟩, fun _ => hrow5.out w' s5 a5 n5 c5 d5 k5 e5 hEx h5⟩
          · cases ht
  case ex =>
    rintro ⟨b2, b5, b7, b8⟩ a w' hs hf ⟨v2, v5, v7, v8, s5, a5, n5, c5, d5, k5, e5, rfl, hEx, f2, f5, f7, f8⟩
    have h7 := allJb_four _ hs
    dsimp only at f2 f5 f7 f8 h7
    obtain ⟨hf1, rfl⟩ := (Bool.and_eq_true _ _).mp hf
    obtain ⟨rfl, rfl⟩ := (Bool.and_eq_true _ _).mp hf1
    have e7 := h7 rfl
    subst e7 ha0
    have R2 := f2 rfl
    have R5 := f5 rfl
    have R8 := f8 rfl
    obtain ⟨rfl, _⟩ := f7 rfl
    obtain ⟨o2, m2, rfl, q2, q22⟩ := id R2
    obtain ⟨o5, m5, rfl, q5, q55⟩ := id R5
    obtain ⟨o8, m8, rfl, q8, q88⟩ := id R8
    have hHeld := hSd.out w' hEx
    have hM := mv_lit w' [.slice o2 2 m2, .slice o5 2 m5, .slice o8 2 m8] P35 #[.slice o2 2 m2, .slice o5 2 m5, .slice o8 2 m8] 26 3 rfl rfl rfl (fun i hi hi' => by
      match i, hi, hi' with
      | 0, _, _ => exact R2
      | 1, _, _ => exact R5
      | 2, _, _ => exact R8) (by decide)
    have hE9 : Ext w' (w'.alloc (.cells #[.slice o2 2 m2, .slice o5 2 m5, .slice o8 2 m8] 26)) := (ExtX.refl _).alloc _
    clear f2 f5 f7 f8 h7 hs hf hf1 q22 q55 q88 q2 q5 q8 R2 R5 R8
    show wpAnyK _ _ _ _ _ _ 7 #[true, true, true, true, true, true, true, true, true, false, false, false, false, false, false, false] _ _
    simp only [fourJ, Act.put, List.setIfInBounds_toArray, List.set_cons_zero, List.set_cons_succ]
    refine ks 9 (fun K hK => ?_)
    go_simp
    skip
    refine kcn hK (hSd.out _ (hEx.trans hE9)) (fun hHeld => ?_)
    clear hK K
    refine ks 10 (fun K hK => ?_)
    go_simp
    ((with_reducible refine (hpla.out _ _ hM).mono ?_); rintro ee w6 ⟨t6, rfl⟩)
    refine kcn hK (hSd.out _ (hEx.trans (hE9.trans t6))) (fun hHeld => ?_)
    clear hK K
    refine kt 11 hOnce ?_
    refine kt 12 hOnce ?_
    refine kt 13 hOnce ?_
    refine ks 14 (fun K hK => ?_)
    go_simp
    skip
    refine kcn hK hHeld (fun hHeld => ?_)
    clear hK K
    refine kl 15 (fun K hK => ?_)
    go_simp
    refine hK.out _ _ ?_
    clear hK K
    have hE56 := hEd.trans (hEx.trans (hE9.trans t6))
    have hu6 := mkx QC.mono hu5 hE56
    have hc0 := hS0.out _ hE56
    obtain ⟨A, hA⟩ : ∃ A : Obj, A = (.cells #[.bool s1, .slice a1 n1 c1, .slice d1 k1 e1] 41) := ⟨_, rfl⟩
    obtain ⟨wa, hwa⟩ : ∃ wa, wa = w6.alloc A := ⟨_, rfl⟩
    obtain ⟨wb, hwb⟩ : ∃ wb, wb = wa.alloc A := ⟨_, rfl⟩
    obtain ⟨wc, hwc⟩ : ∃ wc, wc = wb.alloc A := ⟨_, rfl⟩
    have ga : Ext w6 wa := hwa ▸ (ExtX.refl _).alloc _
    have gb : Ext wa wb := hwb ▸ (ExtX.refl _).alloc _
    have gc : Ext wb wc := hwc ▸ (ExtX.refl _).alloc _
    have hc1 := hS0.out _ (hE56.trans ga)
    have hc2 := hS0.out _ (hE56.trans (ga.trans gb))
    have r1x : ∀ w', QC (mk noY w') (.agg #[.bool s1, .slice a1 n1 c1, .slice d1 k1 e1]) 1 -> RV (mk noY (w'.alloc A)) (.slice (some ⟨w'.heap.size, 0, none⟩) 1 1) [1] := fun w' h1 => by
      rw [hA]
      exact rv_lit w' [.agg #[.bool s1, .slice a1 n1 c1, .slice d1 k1 e1]] [1] _ _ 1 (by simp [cellsL, Value.cells]) rfl rfl (fun i hi hi' => by
        obtain rfl : i = 0 := by simp at hi; omega
        exact h1) (by decide) (fun q hq => by
        obtain rfl : q = 1 := by simpa using hq
        decide +kernel)
    have ra := r1x w6 hu6
    rw [<- hwa] at ra
    have rb := r1x wa (mkx QC.mono hu6 ga)
    rw [<- hwb] at rb
    have rc := r1x wb (mkx QC.mono hu6 (ga.trans gb))
    rw [<- hwc] at rc
    have hM2 := mv_lit wc [.slice (some ⟨w6.heap.size, 0, none⟩) 1 1, .slice (some ⟨wa.heap.size, 0, none⟩) 1 1, .slice (some ⟨wb.heap.size, 0, none⟩) 1 1] O35 _ 26 3 rfl rfl rfl (fun i hi hi' => by
      match i, hi, hi' with
      | 0, _, _ => exact mkx RV.mono ra (gb.trans gc)
      | 1, _, _ => exact mkx RV.mono rb gc
      | 2, _, _ => exact rc) (by decide)
    rw [hwc, hwb, hwa, hA] at hM2
    rw [hwa, hA] at hc1
    rw [hwb, hwa, hA] at hc2
    clear ra rb rc r1x hwa hwb hwc hu6 hHeld hM hpla
    have hz : ∀ (u : World) o, (u.alloc o).heap.size = u.heap.size + 1 := fun u o => Array.size_push _
    simp only [hz] at hM2
    have hEx6 : Ext w6 _ := ExtX.refl _ |>.alloc (.cells #[.bool s1, .slice a1 n1 c1, .slice d1 k1 e1] 41) |>.alloc (.cells #[.bool s1, .slice a1 n1 c1, .slice d1 k1 e1] 41) |>.alloc (.cells #[.bool s1, .slice a1 n1 c1, .slice d1 k1 e1] 41) |>.alloc (.cells #[.slice (some ⟨w6.heap.size, 0, none⟩) 1 1, .slice (some ⟨w6.heap.size + 1, 0, none⟩) 1 1, .slice (some ⟨w6.heap.size + 1 + 1, 0, none⟩) 1 1] 26)
    go_wp2_with (go_at_call 36; refine (hres.out _ _ hM2).mono ?_; rintro ee w7 ⟨t7, rfl⟩)
    go_ret
    exact ⟨hEw5.trans (hE56.trans (hEx6.trans t7)), rfl⟩
end Go.Proofs.YtnnpfhoigmegcaaGreat
namespace Go.Proofs.YtnnpfhoigmegcaaGreat
open Go.RowKit Go.Rep Go.Lim
def TRowOut (X : Nat -> Bool) (tb : Nat) (R : Mem -> Value -> Rat -> Prop) (k n : Nat) (w : World) (e : Ending) (w' : World) : Prop := ExtX (tbm tb) w w' /\ ∃ (ao : Option Addr) (l : List Rat) (cap : Nat), e = .returned (.slice ao n cap) /\ l.length = n /\ n <= cap /\ BR k l /\ TapeR (un X ao) tb w' /\ OL R 3 X w.heap.size 41 w' ao cap l
theorem trow_any (X : Nat -> Bool) (tb n : Nat) (w : World) (ht : TapeR X tb w) (hX : HX X w) (hn : n <= 1000) :
    Calls Tryz.prog 44 #[.pointer (some ⟨tb, 0, none⟩), .int .i64 (n : Int)] w (TRowOut X tb QC 2 n w) := by
  have hsub := tbm_sub ht.1
  go_enter Tryz.func44, Tryz.ntmps44
  go_wp2_with fail
  go_loopw [5, 6] (fun s c wr => ∃ (i : Nat) (oo : Option Addr) (co : Nat) (l : List Rat), c = .int .i64 i /\ s = .slice oo i co /\ l.length = i /\ i <= n /\ BR 2 l /\ OL QC 3 X w.heap.size 41 wr oo co l /\ TapeR (un X oo) tb wr /\ ExtX (tbm tb) w wr) (fun _ c _ => n - (intOf c).toNat)
  case atStart => exact ⟨0, none, 0, [], rfl, rfl, rfl, Nat.zero_le _, fun x hx => by simp at hx, OL.nil _ _ _ _ _ _, ht.none, ExtX.refl _⟩
  case round =>
    obtain ⟨i, oo, co, l, rfl, rfl, hli, hin, hB, hO, htr, hE⟩ := hrel
    have hXr : HX X wr := hX.ext hE
    by_cases hlt : i < n
    · have hXu : HX (un X oo) wr := hO.unX hXr
      have hln := hid hli
      clear hli
      go_wp2_with fail
      refine (trat_any (un X oo) tb _ htr hXu).mono ?_
      rintro e w2 ⟨hE2, ht2, u6, q, rfl, hu6, hq6⟩
      obtain ⟨s6, a6, n6, c6, d6, k6, e6, rfl⟩ := hu6.shape
      have hO2 := hO.ext QC.elem hE2 (fun k _ hk => hsub k hk) (fun _ _ h => h)
      have hX2 : HX X w2 := hXr.ext hE2
      have hE3 := hE.trans hE2
      have hbase := hE3.size
      clear hO htr hE hE2 hXr hXu
      go_wp2_with (at_builtin; refine st_append1n (l := l) slRat rfl QC.elem (by omega) hX2 i hln.out rfl rfl hO2 (.agg #[.bool s6, .slice a6 n6 c6, .slice d6 k6 e6]) q rfl hu6 (by omega) (by omega) ?_; intro oo2 co2 w7 hO7 hE7 hor)
      have hE8 := hE3.own hO2 (Nat.le_refl _) hE7
      have ht3 := ht2.unstep (hO2.not_ob ht.1) hE7 hor
      have hB2 : BR 2 (l ++ [q]) := fun x hx => by
        rcases List.mem_append.1 hx with h | h
        · exact hB x h
        · rw [List.mem_singleton.1 h]; exact hq6
      have hl2 : (l ++ [q]).length = i + 1 := by rw [List.length_append, hln.out]; rfl
      go_roundw
      case rel => exact ⟨i + 1, oo2, co2, _, by go_num, by go_num, hl2, by omega, hB2, hO7, ht3, hE8⟩
      case measure => simp [intOf]; omega
    · have hil : i = n := by omega
      subst hil
      have hc := hO.lenCap
      rw [hli] at hc
      go_wp2_with fail
      go_ret
      exact ⟨hE, oo, l, co, rfl, hli, hc, hB, htr, hO⟩
end Go.Proofs.YtnnpfhoigmegcaaGreat
namespace Go.Proofs.YtnnpfhoigmegcaaGreat
open Go.RowKit Go.Rep Go.Lim
end Go.Proofs.YtnnpfhoigmegcaaGreat
namespace Go.Rep
open Go.RowKit Go.Lim
theorem st_copyNil {P : Program} {ops : Array Oper} {Q : Exit -> Act -> World -> Prop} {rest : List Oper} {a : Act} {w : World} {α : Type} {R : Mem -> Value -> α -> Prop} {sz : Nat} {X : Nat -> Bool} {e : TypeId} {d : Option Tmp} {ty : TypeId} {ps : String} {af : Array Edge}
    {t by_ : Nat} {z : Value} {s x : Operand} {ax : Option Addr} {cs : Nat} (T : SliceT P t e sz by_ z) (hzs : z.cells.size = sz) (hR : Elem R sz) (base : Nat) (hbase : base <= w.heap.size) (hX : ∀ k, X k = true -> k < w.heap.size)
    (xs : List α) (n : Nat) (hn : xs.length = n) (hs : a.eval s = .slice none 0 0) (hx : a.eval x = .slice ax n cs) (hxs : Sl R sz (mk X w) ax xs) (hroom : n * by_ <= 140737488355328) (hmax : n <= 9223372036854775807)
    (K : ∀ ao' cap' w', OL R sz X base e w' ao' cap' xs -> n <= cap' -> Ext w w' -> wpList P ops Q rest (a.put d (.slice ao' n cap')) w') :
    wpList P ops Q (⟨d, .call { callee := .builtin .append, args := #[s, x], argTypes := #[t, t] }, ty, ps, af, none⟩ :: rest) a w := by
  subst hn
  have h0 : Sl R sz (mk (un X none) w) ax xs := by
    have : un X none = X := by funext k; simp [un, ob]
    rw [this]; exact hxs
  refine st_appendl (l := []) T hzs hR hbase hX xs hs hx (OL.nil _ _ _ _ _ _) h0 (by simpa using hroom) (by simpa using hmax) fun ao' cap' w' hO hE _ => ?_
  rw [List.nil_append] at hO |-
  exact K ao' cap' w' hO hO.lenCap (hE.weaken fun _ _ _ => rfl)
theorem Sl.rowsF {R : Mem -> Value -> Rat -> Prop} {h : Mem} {ao : Option Addr} {m : List (List Rat)} (s : Sl (SlV R 3) 1 h ao m) : ∃ f : Nat -> Option Addr × Nat, ∀ i (hi : i < m.length), h (adr ao i) = some (.slice (f i).1 m[i].length (f i).2) /\ m[i].length <= (f i).2 /\ Sl R 3 h (f i).1 m[i] := by
  have key : ∀ i, ∃ p : Option Addr × Nat, ∀ (hi : i < m.length), h (adr ao i) = some (.slice p.1 m[i].length p.2) /\ m[i].length <= p.2 /\ Sl R 3 h p.1 m[i] := fun i => by
    by_cases hi : i < m.length
    · obtain ⟨u, h1, a, c, rfl, h2, h3⟩ := s.cell SlV.one i hi
      exact ⟨(a, c), fun _ => ⟨h1, h2, h3⟩⟩
    · exact ⟨(none, 0), fun h => absurd h hi⟩
  exact ⟨fun i => (key i).choose, fun i hi => (key i).choose_spec hi⟩
theorem OL.rowsF {X : Nat -> Bool} {base : Nat} {e : TypeId} {w : World} {ao : Option Addr} {cap : Nat} {m : List (List Rat)} (s : OL RC 1 X base e w ao cap m) : ∃ f : Nat -> Option Addr × Nat, ∀ i (hi : i < m.length), w.cell? (adr ao i) = some (.slice (f i).1 m[i].length (f i).2) /\ m[i].length <= (f i).2 /\ Sl QC 3 (mk (un X ao) w) (f i).1 m[i] := by
  have key : ∀ i, ∃ p : Option Addr × Nat, ∀ (hi : i < m.length), w.cell? (adr ao i) = some (.slice p.1 m[i].length p.2) /\ m[i].length <= p.2 /\ Sl QC 3 (mk (un X ao) w) p.1 m[i] := fun i => by
    by_cases hi : i < m.length
    · obtain ⟨u, h1, _, h2⟩ := s.cell SlV.one i hi
      obtain ⟨a, c, rfl, h3, h4⟩ := h2
      exact ⟨(a, c), fun _ => ⟨h1, h3, h4⟩⟩
    · exact ⟨(none, 0), fun h => absurd h hi⟩
  exact ⟨fun i => (key i).choose, fun i hi => (key i).choose_spec hi⟩
theorem ob_adr {ao : Option Addr} {n k : Nat} (hd : Hd ao n) (hn : 0 < n) {b : Nat} (hb : ob ao b = false) : (adr ao k).block ≠ b := by
  obtain ⟨g, o, rfl⟩ := hd hn
  intro h
  have : g = b := h
  subst this
  simp [ob] at hb
end Go.Rep
namespace Go.Proofs.YtnnpfhoigmegcaaGreat
open Go.RowKit Go.Rep Go.Lim
def pB (k : Nat) : Nat := 2 ^ (k + 1) - 2
end Go.Proofs.YtnnpfhoigmegcaaGreat
