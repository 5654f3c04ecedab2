/- Parts of a proof: each theorem states what it proves, and its conditions. -/
import Derived.Test.YtgimdkjgaemcbaaGreatIgD
import Derived.Deep.RegionHeld3
namespace Go.Proofs.YtgimdkjgaemcbaaGreat
open Go.RowKit Go.Rep Go.Lim
def IDOut (X : Nat -> Bool) (w : World) (q : Int) (e : Ending) (w' : World) : Prop := Ext w w' /\ ∃ u sv av nv cv, e = .returned (.tuple #[u, .agg #[.bool sv, .slice av nv cv], .bool true]) /\ ZC (mk X w') u q
theorem results_box3 {P : Program} {w : World} {fn : Func} {tmps : Array Value} {c c2 d : Tmp} {t : TypeId} {n b b' : Nat} {cs cs' : Array Value} {T T' : TypeId} (h : fn.results = #[.cell c t, .cell c2 t, .tmp d]) (hp : tmps.getD c undef = .pointer (some ⟨b, 0, none⟩)) (hp2 : tmps.getD c2 undef = .pointer (some ⟨b', 0, none⟩)) (hT : StructT P t n) (hb : Bx w b cs T) (hcs : cs.size = n) (hb' : Bx w b' cs' T') (hcs' : cs'.size = n) :
    (results fn tmps).run P w = .ok (.tuple #[.agg cs, .agg cs', tmps.getD d undef]) w := by
  have hl := run_loadBox (P := P) hT hb hcs
  have hl' := run_loadBox (P := P) hT hb' hcs'
  rw [Array.getD_eq_getD_getElem?] at hp hp2
  simp [results, h, hp, hp2, asAddr, hl, hl']
set_option maxRecDepth 100000 in
set_option maxHeartbeats 800000 in
theorem ridiv (X : Nat -> Bool) (w : World) (u v : Value) (x y : Int) (hX : HX X w) (hu : ZV (mk X w) u x) (hv : ZV (mk X w) v y) (hbx : lg x.natAbs <= 274877906944) (hby : lg y.natAbs <= 274877906944) (h0 : 0 < y) (hd : y ∣ x) : Calls Tryz.prog 148 #[u, v] w (IDOut X w (x / y)) := by
  have hbx' := hid hbx
  have hby' := hid hby
  have hq : Hid (∃ k : Int, x = y * k /\ x / y = k) := hid (by
    obtain ⟨k, rfl⟩ := hd
    exact ⟨k, rfl, Int.mul_ediv_cancel_left _ (by omega)⟩)
  have h0' := hid h0
  clear hbx hby hd h0
  have hlx := hid hu.lg
  have hly := hid hv.lg
  obtain ⟨s1, a1, c1, l1, rfl, hu'⟩ := id hu
  obtain ⟨s2, a2, c2, l2, rfl, hv'⟩ := id hv
  obtain ⟨W, hW, hE, b0, b1, b2, b3, hz⟩ := boxes4 w #[.bool s1, .slice a1 l1.length c1] #[.bool s2, .slice a2 l2.length c2] #[.bool false, .slice none 0 0] #[.bool false, .slice none 0 0] 36 36 36 36
  have hXW : HX (hidB X w.heap.size 4) W := hX.boxes hz
  have hu1 := ZV.mono _ _ _ _ (le_boxes (nb := 4) hE) hu
  have hv1 := ZV.mono _ _ _ _ (le_boxes (nb := 4) hE) hv
  obtain ⟨b, hb⟩ : ∃ b, w.heap.size = b := ⟨_, rfl⟩
  have hbw : w.heap.size <= b := by omega
  rw [hb] at b0 b1 b2 b3 hz hXW hu1 hv1
  have hEd : Ext W W.drew := (ExtX.refl W).drew
  have hXd : HX (hidB X b 4) W.drew := hXW
  have hud : ZV (mk (hidB X b 4) W.drew) (.agg #[.bool s1, .slice a1 l1.length c1]) x := hu1
  have hvd : ZV (mk (hidB X b 4) W.drew) (.agg #[.bool s2, .slice a2 l2.length c2]) y := hv1
  have k00 := b0.cell 0 rfl
  have k01 := b0.cell 1 rfl
  have k10 := b1.cell 0 rfl
  have k11 := b1.cell 1 rfl
  clear hu hv hu' hv'
  go_enter Tryz.func148, Tryz.ntmps148
  go_upto_region 1 with (fail)
  go_cut [] from 10 to 13 (fun wx => ∃ s3 a3 c3 l3 s4 a4 c4 l4, Bx wx b #[.bool s3, .slice a3 l3 c3] 36 /\ Bx wx (b + 1) #[.bool s4, .slice a4 l4 c4] 36 /\ Bx wx (b + 1 + 1) #[.bool false, .slice none 0 0] 36 /\ Bx wx (b + 1 + 1 + 1) #[.bool false, .slice none 0 0] 36 /\ ZC (mk (hidB X b 4) wx) (.agg #[.bool s3, .slice a3 l3 c3]) x /\ ZC (mk (hidB X b 4) wx) (.agg #[.bool s4, .slice a4 l4 c4]) y /\ Ext w wx)
  case first =>
    go_region_with (first | (go_at_call 153; (with_reducible refine (ritake (hidB X b 4) W.drew _ x hXd hud).mono ?_); rintro e w5 ⟨hE5, u5, rfl, s5, a5, c5, l5, rfl, h51, h52, h53⟩; have bb0 := b0.ext0 (hEd.trans hE5); have bb1 := b1.ext0 (hEd.trans hE5); have e00 := bb0.cell 0 rfl; have e01 := bb0.cell 1 rfl; have e10 := bb1.cell 0 rfl; have e11 := bb1.cell 1 rfl) | (go_at_call 153; (with_reducible refine (ritake (hidB X b 4) w5 _ y (HX.ext hXd hE5) (mkx ZV.mono hvd hE5)).mono ?_); rintro e w6 ⟨hE6, u6, rfl, s6, a6, c6, l6, rfl, h61, h62, h63⟩; have bb2 := bb0.ext0 hE6; have bb3 := bb1.ext0 hE6; have g00 := bb2.cell 0 rfl; have g01 := bb2.cell 1 rfl; have g10 := bb3.cell 0 rfl; have g11 := bb3.cell 1 rfl; have fr0 := bb2.frozen 0; have fr1 := bb2.frozen 1; have fr2 := bb3.frozen 0; have fr3 := bb3.frozen 1))
    all_goals
      obtain ⟨wf, hwf, q0, q1, q2, q3, q4⟩ := two_stores (X := X) (nb := 4) bb2 bb3 (hE.trans ((hEd.trans hE5).trans hE6)) hbw (by omega) (.bool s5) (.slice a5 l5.length c5) (.bool s6) (.slice a6 l6.length c6)
      rw [hwf]
      have hfx : ZC (mk (hidB X b 4) wf) (.agg #[.bool s5, .slice a5 l5.length c5]) x := ⟨s5, a5, c5, l5, rfl, h51, h52, (h53.mono (NatIn.mono _) (mk_ext hE6)).mono (NatIn.mono _) q4⟩
      have hfy : ZC (mk (hidB X b 4) wf) (.agg #[.bool s6, .slice a6 l6.length c6]) y := ⟨s6, a6, c6, l6, rfl, h61, h62, h63.mono (NatIn.mono _) q4⟩
      have q5 := q2 (b + 1 + 1) _ _ (by omega) (by omega) ((b2.ext0 (hEd.trans hE5)).ext0 hE6)
      have q6 := q2 (b + 1 + 1 + 1) _ _ (by omega) (by omega) ((b3.ext0 (hEd.trans hE5)).ext0 hE6)
      clear e00 e01 e10 e11 g00 g01 g10 g11 fr0 fr1 fr2 fr3 k00 k01 k10 k11 hwf
      go_wp2_with fail
      go_meet
      exact ⟨_, _, _, _, _, _, _, _, q0, q1, q5, q6, hfx, hfy, q3⟩
  case rest =>
    clear k00 k01 k10 k11 b0 b1 b2 b3 hu1 hv1 hud hvd hXd hEd hW
    obtain ⟨s3, a3, c3, n3, s4, a4, c4, n4, b0, b1, b2, b3, hx, hy, hE1⟩ := hcut
    obtain ⟨_, _, _, l3, heq, h31, h32, h33⟩ := hx
    simp only [Value.agg.injEq, Array.mk.injEq, List.cons.injEq, Value.bool.injEq, Value.slice.injEq, and_true] at heq
    obtain ⟨rfl, rfl, rfl, rfl⟩ := heq
    obtain ⟨_, _, _, l4, heq, h41, h42, h43⟩ := hy
    simp only [Value.agg.injEq, Array.mk.injEq, List.cons.injEq, Value.bool.injEq, Value.slice.injEq, and_true] at heq
    obtain ⟨rfl, rfl, rfl, rfl⟩ := heq
    have hlz := hid (sg_of h32)
    have hlw := hid (sg_of h42)
    have hsx := hid h32.1
    have hsy := hid h42.1
    have hEd : Ext wc wc.drew := (ExtX.refl wc).drew
    have hnx : NV (mk (hidB X b 4) wc) (.slice a3 l3.length c3) x.natAbs := NC.nv ⟨a3, c3, l3, rfl, h31, h32.2, h33⟩ (by have := hlx.out; omega)
    have hny : NV (mk (hidB X b 4) wc) (.slice a4 l4.length c4) y.natAbs := NC.nv ⟨a4, c4, l4, rfl, h41, h42.2, h43⟩ (by have := hly.out; omega)
    have hzz : w.heap.size + 4 <= wc.heap.size := by have := b3.lt; omega
    have hXc : HX (hidB X b 4) wc := hX.boxes' hE1 (by omega) hzz
    have k00 := b0.cell 0 rfl
    have k01 := b0.cell 1 rfl
    have k10 := b1.cell 0 rfl
    have k11 := b1.cell 1 rfl
    have hy0 : Hid (0 < y.natAbs) := hid (by have := h0'.out; omega)
    have hmod : Hid (x.natAbs % y.natAbs = 0) := hid (by
      obtain ⟨k, hk, _⟩ := hq.out
      rw [hk, Int.natAbs_mul]; exact Nat.mul_mod_right _ _)
    obtain rfl : s4 = false := by rw [hsy.out]; exact decide_eq_false (by have := h0'.out; omega)
    have hfin : Hid (sg s3 (x.natAbs / y.natAbs) = x / y) := hid (by
      obtain ⟨k, hk, hk2⟩ := hq.out
      have h0 := h0'.out
      have e1 := hlz.out
      rw [hk2]
      have hdv : x.natAbs / y.natAbs = k.natAbs := by rw [hk, Int.natAbs_mul]; exact Nat.mul_div_cancel_left _ hy0.out
      rw [hdv, hsx.out]
      have hs : (x < 0) = (k < 0) := by
        rw [hk]
        exact propext ⟨fun h => by
          by_cases hk0 : k < 0
          · exact hk0
          · have := Int.mul_nonneg (show 0 <= y by omega) (show 0 <= k by omega); omega, fun h => Int.mul_neg_of_pos_of_neg h0 h⟩
      unfold sg
      simp only [hs]
      by_cases hk0 : k < 0
      · simp only [hk0, decide_true, if_true]; omega
      · simp only [hk0, decide_false, Bool.false_eq_true, if_false]; omega)
    clear hsx hsy hlz hlw h32 h42 hEd
    go_wp2_with fail
    refine (rndiv (hidB X b 4) wc _ _ _ _ hXc hnx hny hbx'.out hby'.out hy0.out).mono ?_
    rintro e w5 ⟨hE5, qu, ru, rfl, hqu, hru⟩
    rw [hmod.out] at hru
    obtain ⟨a5, c5, l5, rfl, h51, h52, h53⟩ := hru
    obtain rfl : l5 = [] := List.eq_nil_of_length_eq_zero ((canon_len0 h52).2 rfl)
    have hX5 := hXc.ext hE5
    have bb0 := b0.ext0 hE5
    have bb1 := b1.ext0 hE5
    have bb2 := b2.ext0 hE5
    have bb3 := b3.ext0 hE5
    clear k00 k01 k10 k11
    have k00 := bb0.cell 0 rfl
    have k01 := bb0.cell 1 rfl
    have k10 := bb1.cell 0 rfl
    have k11 := bb1.cell 1 rfl
    simp only [List.length_nil]
    cases s3
    ·
      go_wp2_with fail
      refine (risigned (hidB X b 4) w5 false qu _ hX5 hqu).mono ?_
      rintro e w6 ⟨hE6, u6, rfl, s6, a6, c6, l6, rfl, h61, h62, h63⟩
      rw [hfin.out] at h62
      go_wp2_with fail
      refine (risigned (hidB X b 4) w6 false _ 0 (hX5.ext hE6) (mkx NC.mono ⟨a5, c5, [], rfl, h51, h52, h53⟩ hE6)).mono ?_
      rintro e w7 ⟨hE7, u7, rfl, s7, a7, c7, l7, rfl, h71, h72, h73⟩
      have d2 := (bb2.ext0 hE6).ext0 hE7
      have d3 := (bb3.ext0 hE6).ext0 hE7
      have hs7 := h63.mono (NatIn.mono _) (mk_ext hE7)
      have hE57 := hE1.trans (hE5.trans (hE6.trans hE7))
      clear k00 k01 k10 k11 h72 h73 h71
      go_wp2_with ((with_reducible show wpList _ _ _ (⟨_, .store _ _ _, _, _, _, _⟩ :: _) _ _); first | (refine st_storeBox stInt rfl rfl d2 rfl rfl (one2 _ _ _ _) ?_; intro w8 r1 r2; have d3' := d3.ext r2 (ob_other (by omega))) | (refine st_storeBox stInt rfl rfl d3' rfl rfl (one2 _ _ _ _) ?_; intro w9 r3 r4))
      have r5 := r1.ext r4 (ob_other (by omega))
      have h8 := ((hs7.mono (NatIn.mono _) (le_store r2 (by omega) (by omega))).mono (NatIn.mono _) (le_store r4 (by omega) (by omega))).mono (NatIn.mono _) le_unbox
      exact bodyPost_ret (results_box3 rfl rfl rfl stInt r5 rfl r3 rfl) rfl ⟨ExtX.box (ExtX.box hE57 r2 (by omega)) r4 (by omega), _, _, _, _, _, rfl, s6, a6, c6, l6, rfl, h61, h62, h8⟩
    ·
      go_wp2_with fail
      refine (risigned (hidB X b 4) w5 true qu _ hX5 hqu).mono ?_
      rintro e w6 ⟨hE6, u6, rfl, s6, a6, c6, l6, rfl, h61, h62, h63⟩
      rw [hfin.out] at h62
      go_wp2_with fail
      refine (risigned (hidB X b 4) w6 false _ 0 (hX5.ext hE6) (mkx NC.mono ⟨a5, c5, [], rfl, h51, h52, h53⟩ hE6)).mono ?_
      rintro e w7 ⟨hE7, u7, rfl, s7, a7, c7, l7, rfl, h71, h72, h73⟩
      have d2 := (bb2.ext0 hE6).ext0 hE7
      have d3 := (bb3.ext0 hE6).ext0 hE7
      have hs7 := h63.mono (NatIn.mono _) (mk_ext hE7)
      have hE57 := hE1.trans (hE5.trans (hE6.trans hE7))
      clear k00 k01 k10 k11 h72 h73 h71
      go_wp2_with ((with_reducible show wpList _ _ _ (⟨_, .store _ _ _, _, _, _, _⟩ :: _) _ _); first | (refine st_storeBox stInt rfl rfl d2 rfl rfl (one2 _ _ _ _) ?_; intro w8 r1 r2; have d3' := d3.ext r2 (ob_other (by omega))) | (refine st_storeBox stInt rfl rfl d3' rfl rfl (one2 _ _ _ _) ?_; intro w9 r3 r4))
      have r5 := r1.ext r4 (ob_other (by omega))
      have h8 := ((hs7.mono (NatIn.mono _) (le_store r2 (by omega) (by omega))).mono (NatIn.mono _) (le_store r4 (by omega) (by omega))).mono (NatIn.mono _) le_unbox
      exact bodyPost_ret (results_box3 rfl rfl rfl stInt r5 rfl r3 rfl) rfl ⟨ExtX.box (ExtX.box hE57 r2 (by omega)) r4 (by omega), _, _, _, _, _, rfl, s6, a6, c6, l6, rfl, h61, h62, h8⟩
end Go.Proofs.YtgimdkjgaemcbaaGreat
namespace Go.Lim
def cmpZ (a b : Int) : Int := if a < b then -1 else if b < a then 1 else 0
theorem cmpZ_of (x y : Int) : (x.sign < y.sign -> cmpZ x y = -1) /\ (y.sign < x.sign -> cmpZ x y = 1) /\ (x.sign = y.sign -> x.sign * cmpN x.natAbs y.natAbs = cmpZ x y) := by
  have hs : ∀ z : Int, (z < 0 /\ z.sign = -1) \/ (z = 0 /\ z.sign = 0) \/ (0 < z /\ z.sign = 1) := fun z => by
    rcases Int.lt_trichotomy z 0 with h | h | h
    · exact .inl ⟨h, Int.sign_eq_neg_one_of_neg h⟩
    · subst h; exact .inr (.inl ⟨rfl, rfl⟩)
    · exact .inr (.inr ⟨h, Int.sign_eq_one_of_pos h⟩)
  unfold cmpZ cmpN
  rcases hs x with ⟨h1, e1⟩ | ⟨h1, e1⟩ | ⟨h1, e1⟩ <;> rcases hs y with ⟨h2, e2⟩ | ⟨h2, e2⟩ | ⟨h2, e2⟩ <;> rw [e1, e2]
  all_goals refine ⟨fun h => ?_, fun h => ?_, fun h => ?_⟩
  all_goals first
    | omega
    | (repeat' split) <;> omega
end Go.Lim
namespace Go.Proofs.YtgimdkjgaemcbaaGreat
open Go.RowKit Go.Rep Go.Lim
theorem ifrom (X : Nat -> Bool) (w : World) (v : Int) (hX : HX X w) (h1 : -9223372036854775808 <= v) (h2 : v <= 9223372036854775807) : Calls Tryz.prog 138 #[.int .i64 v] w (ROut X w ZC v) := by
  obtain ⟨W, hW, hE, b0, hz⟩ := boxes1 w #[.bool false, .slice none 0 0] 36
  have hXW : HX (hidB X w.heap.size 1) W := hX.boxes hz
  obtain ⟨b, hb⟩ : ∃ b, w.heap.size = b := ⟨_, rfl⟩
  have hbw : w.heap.size <= b := by omega
  rw [hb] at b0 hz hXW
  have hlt : Hid (v.natAbs < 18446744073709551616) := hid (by omega)
  by_cases hv : v < 0
  · have hn : Hid (sg true v.natAbs = v) := hid (by unfold sg; simp; omega)
    have hvv : Hid (IntKind.u64.wrap (-(IntKind.u64.wrap v)) = (v.natAbs : Int)) := hid (by rw [IntKind.wrap_u64, IntKind.wrap_u64]; omega)
    go_enter Tryz.func138, Tryz.ntmps138
    go_wp2_with fail
    rw [hvv.out]
    refine (nfrom (X := hidB X b 1) hXW hlt.out).mono ?_
    rintro e w5 ⟨hE5, u5, rfl, hu5⟩
    go_wp2_with fail
    refine (isigned (hidB X b 1) w5 true u5 _ (hXW.ext hE5) hu5).mono ?_
    rintro e w6 ⟨hE6, u6, rfl, s6, a6, c6, l6, rfl, h61, h62, h63⟩
    rw [hn.out] at h62
    have bb0 := (b0.ext0 hE5).ext0 hE6
    go_wp2_with ((with_reducible show wpList _ _ _ (⟨_, .store _ _ _, _, _, _, _⟩ :: _) _ _); refine st_storeBox stInt rfl rfl bb0 rfl rfl (one2 _ _ _ _) ?_; intro w7 r1 r2)
    have h7 := (h63.mono (NatIn.mono _) (le_store r2 (by omega) (by omega))).mono (NatIn.mono _) le_unbox
    exact bodyPost_ret (results_box rfl rfl stInt r1 rfl) rfl ⟨ExtX.box (hE.trans (hE5.trans hE6)) r2 (by omega), _, rfl, s6, a6, c6, l6, rfl, h61, h62, h7⟩
  · obtain ⟨n, rfl⟩ := Int.eq_ofNat_of_zero_le (show 0 <= v by omega)
    have hn : Hid (sg false n = (n : Int)) := hid rfl
    have hlt2 : Hid (n < 18446744073709551616) := hid (by omega)
    go_enter Tryz.func138, Tryz.ntmps138
    go_wp2_with fail
    refine (nfrom (X := hidB X b 1) hXW hlt2.out).mono ?_
    rintro e w5 ⟨hE5, u5, rfl, hu5⟩
    go_wp2_with fail
    refine (isigned (hidB X b 1) w5 false u5 n (hXW.ext hE5) hu5).mono ?_
    rintro e w6 ⟨hE6, u6, rfl, s6, a6, c6, l6, rfl, h61, h62, h63⟩
    have bb0 := (b0.ext0 hE5).ext0 hE6
    go_wp2_with ((with_reducible show wpList _ _ _ (⟨_, .store _ _ _, _, _, _, _⟩ :: _) _ _); refine st_storeBox stInt rfl rfl bb0 rfl rfl (one2 _ _ _ _) ?_; intro w7 r1 r2)
    have h7 := (h63.mono (NatIn.mono _) (le_store r2 (by omega) (by omega))).mono (NatIn.mono _) le_unbox
    exact bodyPost_ret (results_box rfl rfl stInt r1 rfl) rfl ⟨ExtX.box (hE.trans (hE5.trans hE6)) r2 (by omega), _, rfl, s6, a6, c6, l6, rfl, h61, h62, h7⟩
set_option maxRecDepth 100000 in
set_option maxHeartbeats 800000 in
theorem icompare (X : Nat -> Bool) (w : World) (u v : Value) (x y : Int) (hX : HX X w) (hu : ZV (mk X w) u x) (hv : ZV (mk X w) v y) : Calls Tryz.prog 191 #[u, v] w (IntOut w (cmpZ x y)) := by
  have hlx := hid hu.lg
  have hly := hid hv.lg
  obtain ⟨s1, a1, c1, l1, rfl, hu'⟩ := id hu
  obtain ⟨s2, a2, c2, l2, rfl, hv'⟩ := id hv
  obtain ⟨W, hW, hE, b0, b1, hz⟩ := boxes2 w #[.bool s1, .slice a1 l1.length c1] #[.bool s2, .slice a2 l2.length c2] 36 36
  have hXW : HX (hidB X w.heap.size 2) W := hX.boxes hz
  have hu1 := ZV.mono _ _ _ _ (le_boxes (nb := 2) hE) hu
  have hv1 := ZV.mono _ _ _ _ (le_boxes (nb := 2) hE) hv
  obtain ⟨b, hb⟩ : ∃ b, w.heap.size = b := ⟨_, rfl⟩
  have hbw : w.heap.size <= b := by omega
  rw [hb] at b0 b1 hz hXW hu1 hv1
  have hEd : Ext W W.drew := (ExtX.refl W).drew
  have hXd : HX (hidB X b 2) W.drew := hXW
  have hud : ZV (mk (hidB X b 2) W.drew) (.agg #[.bool s1, .slice a1 l1.length c1]) x := hu1
  have hvd : ZV (mk (hidB X b 2) W.drew) (.agg #[.bool s2, .slice a2 l2.length c2]) y := hv1
  have k00 := b0.cell 0 rfl
  have k01 := b0.cell 1 rfl
  have k10 := b1.cell 0 rfl
  have k11 := b1.cell 1 rfl
  clear hu hv hu' hv'
  go_enter Tryz.func191, Tryz.ntmps191
  go_upto_region 1 with (fail)
  go_cut [] from 7 to 10 (fun wx => ∃ s3 a3 c3 l3 s4 a4 c4 l4, Bx wx b #[.bool s3, .slice a3 l3 c3] 36 /\ Bx wx (b + 1) #[.bool s4, .slice a4 l4 c4] 36 /\ ZC (mk (hidB X b 2) wx) (.agg #[.bool s3, .slice a3 l3 c3]) x /\ ZC (mk (hidB X b 2) wx) (.agg #[.bool s4, .slice a4 l4 c4]) y /\ Ext w wx)
  case first =>
    go_region_with (first | (go_at_call 197; (with_reducible refine (ivalue (hidB X b 2) W.drew _ x hXd hud).mono ?_); rintro e w5 ⟨hE5, u5, rfl, s5, a5, c5, l5, rfl, h51, h52, h53⟩; have bb0 := b0.ext0 (hEd.trans hE5); have bb1 := b1.ext0 (hEd.trans hE5); have e00 := bb0.cell 0 rfl; have e01 := bb0.cell 1 rfl; have e10 := bb1.cell 0 rfl; have e11 := bb1.cell 1 rfl) | (go_at_call 197; (with_reducible refine (ivalue (hidB X b 2) w5 _ y (HX.ext hXd hE5) (mkx ZV.mono hvd hE5)).mono ?_); rintro e w6 ⟨hE6, u6, rfl, s6, a6, c6, l6, rfl, h61, h62, h63⟩; have bb2 := bb0.ext0 hE6; have bb3 := bb1.ext0 hE6; have g00 := bb2.cell 0 rfl; have g01 := bb2.cell 1 rfl; have g10 := bb3.cell 0 rfl; have g11 := bb3.cell 1 rfl; have fr0 := bb2.frozen 0; have fr1 := bb2.frozen 1; have fr2 := bb3.frozen 0; have fr3 := bb3.frozen 1))
    all_goals
      obtain ⟨wf, hwf, q0, q1, q2, q3, q4⟩ := two_stores (X := X) (nb := 2) bb2 bb3 (hE.trans ((hEd.trans hE5).trans hE6)) hbw (by omega) (.bool s5) (.slice a5 l5.length c5) (.bool s6) (.slice a6 l6.length c6)
      rw [hwf]
      have hfx : ZC (mk (hidB X b 2) wf) (.agg #[.bool s5, .slice a5 l5.length c5]) x := ⟨s5, a5, c5, l5, rfl, h51, h52, (h53.mono (NatIn.mono _) (mk_ext hE6)).mono (NatIn.mono _) q4⟩
      have hfy : ZC (mk (hidB X b 2) wf) (.agg #[.bool s6, .slice a6 l6.length c6]) y := ⟨s6, a6, c6, l6, rfl, h61, h62, h63.mono (NatIn.mono _) q4⟩
      clear e00 e01 e10 e11 g00 g01 g10 g11 fr0 fr1 fr2 fr3 k00 k01 k10 k11 hwf
      go_wp2_with fail
      go_meet
      exact ⟨_, _, _, _, _, _, _, _, q0, q1, hfx, hfy, q3⟩
  case rest =>
    clear k00 k01 k10 k11 b0 b1 hu1 hv1 hud hvd hXd hEd hW
    obtain ⟨s3, a3, c3, n3, s4, a4, c4, n4, b0, b1, hx, hy, hE1⟩ := hcut
    have hzx := hx.zv hlx.out
    have hzy := hy.zv hly.out
    obtain ⟨_, _, _, l3, heq, h31, h32, h33⟩ := hx
    simp only [Value.agg.injEq, Array.mk.injEq, List.cons.injEq, Value.bool.injEq, Value.slice.injEq, and_true] at heq
    obtain ⟨rfl, rfl, rfl, rfl⟩ := heq
    obtain ⟨_, _, _, l4, heq, h41, h42, h43⟩ := hy
    simp only [Value.agg.injEq, Array.mk.injEq, List.cons.injEq, Value.bool.injEq, Value.slice.injEq, and_true] at heq
    obtain ⟨rfl, rfl, rfl, rfl⟩ := heq
    have hlz := hid (sg_of h32)
    have hlw := hid (sg_of h42)
    have hsx := hid h32.1
    have hsy := hid h42.1
    have hEd : Ext wc wc.drew := (ExtX.refl wc).drew
    have hnx : NV (mk (hidB X b 2) wc) (.slice a3 l3.length c3) x.natAbs := NC.nv ⟨a3, c3, l3, rfl, h31, h32.2, h33⟩ (by have := hlx.out; omega)
    have hny : NV (mk (hidB X b 2) wc) (.slice a4 l4.length c4) y.natAbs := NC.nv ⟨a4, c4, l4, rfl, h41, h42.2, h43⟩ (by have := hly.out; omega)
    have hzz : w.heap.size + 2 <= wc.heap.size := by have := b1.lt; omega
    have hXc : HX (hidB X b 2) wc := hX.boxes' hE1 (by omega) hzz
    have hB := hid (And.intro b0 b1)
    have k00 := b0.cell 0 rfl
    have k01 := b0.cell 1 rfl
    have k10 := b1.cell 0 rfl
    have k11 := b1.cell 1 rfl
    have hcm := hid (cmpZ_of x y)
    have hsg : Hid (∀ z : Int, z.sign = -1 \/ z.sign = 0 \/ z.sign = 1) := hid (fun z => by
      rcases Int.lt_trichotomy z 0 with h | h | h
      · exact .inl (Int.sign_eq_neg_one_of_neg h)
      · subst h; exact .inr (.inl rfl)
      · exact .inr (.inr (Int.sign_eq_one_of_pos h)))
    clear hsx hsy hlz hlw h32 h42
    have hXd : HX (hidB X b 2) wc.drew := hXc
    have hzxd : ZV (mk (hidB X b 2) wc.drew) (.agg #[.bool s3, .slice a3 l3.length c3]) x := hzx
    have hzyd : ZV (mk (hidB X b 2) wc.drew) (.agg #[.bool s4, .slice a4 l4.length c4]) y := hzy
    go_wp2_with fail
    go_region_held3 (fun w' => w'.cell? ⟨b, 0, none⟩ = some (.bool s3) /\ w'.cell? ⟨b, 1, none⟩ = some (.slice a3 l3.length c3) /\ w'.cell? ⟨b + 1, 0, none⟩ = some (.bool s4) /\ w'.cell? ⟨b + 1, 1, none⟩ = some (.slice a4 l4.length c4))
      (first | exact ⟨(hB.out.1.ext0 (hEd.trans hE5)).cell 0 rfl, (hB.out.1.ext0 (hEd.trans hE5)).cell 1 rfl, (hB.out.2.ext0 (hEd.trans hE5)).cell 0 rfl, (hB.out.2.ext0 (hEd.trans hE5)).cell 1 rfl⟩ | exact ⟨(hB.out.1.ext0 (hEd.trans (hE5.trans hE6))).cell 0 rfl, (hB.out.1.ext0 (hEd.trans (hE5.trans hE6))).cell 1 rfl, (hB.out.2.ext0 (hEd.trans (hE5.trans hE6))).cell 0 rfl, (hB.out.2.ext0 (hEd.trans (hE5.trans hE6))).cell 1 rfl⟩ | go_keep)
      (first | (go_at_call 176; (with_reducible refine (isign (hidB X b 2) wc.drew _ x hXd hzxd).mono ?_); rintro e w5 ⟨hE5, rfl⟩) | (go_at_call 176; (with_reducible refine (isign (hidB X b 2) w5 _ y (HX.ext hXd hE5) (mkx ZV.mono hzyd hE5)).mono ?_); rintro e w6 ⟨hE6, rfl⟩))
    have hE6' : Ext wc w6 := hEd.trans (hE5.trans hE6)
    have q0 := hB.out.1.ext0 hE6'
    have q1 := hB.out.2.ext0 hE6'
    have hnx6 := mkx NV.mono hnx hE6'
    have hny6 := mkx NV.mono hny hE6'
    have hEf := hE1.trans hE6'
    clear k00 k01 k10 k11 hE5 hE6 hEd hXd hzxd hzyd hzx hzy hnx hny
    have k00 := q0.cell 0 rfl
    have k01 := q0.cell 1 rfl
    have k10 := q1.cell 0 rfl
    have k11 := q1.cell 1 rfl
    have hx3 := hsg.out x
    have hy3 := hsg.out y
    have hxs := hid (show x.sign = x.sign from rfl)
    generalize hsx : x.sign = sx at *
    generalize hsy : y.sign = sy at *
    clear hxs hsx hsy
    have hbx : -1 <= sx /\ sx <= 1 := by omega
    have hby : -1 <= sy /\ sy <= 1 := by omega
    clear hx3 hy3
    by_cases h1 : sx < sy
    · have hf := hid (hcm.out.1 h1)
      go_wp2_with fail
      go_ret
      exact ⟨hEf, ret_int hf.out.symm⟩
    · by_cases h2 : sy < sx
      · have hf := hid (hcm.out.2.1 h2)
        go_wp2_with fail
        go_ret
        exact ⟨hEf, ret_int hf.out.symm⟩
      · have hf := hid (hcm.out.2.2 (by omega))
        go_wp2_with fail
        refine (ncmp hnx6 hny6).mono ?_
        rintro e w7 ⟨hE7, rfl⟩
        have hcb : -1 <= cmpN x.natAbs y.natAbs /\ cmpN x.natAbs y.natAbs <= 1 := by unfold cmpN; split <;> (try split) <;> omega
        generalize cmpN x.natAbs y.natAbs = cm at *
        have hpb : -1 <= sx * cm /\ sx * cm <= 1 := by
          rcases (by omega : sx = -1 \/ sx = 0 \/ sx = 1) with rfl | rfl | rfl <;> omega
        have hw1 : IntKind.i64.wrap (sx * cm) = sx * cm := IntWalk.i64_in _ (by omega)
        clear k00 k01 k10 k11
        go_wp2_with fail
        go_ret
        exact ⟨hEf.trans hE7, ret_int hf.out⟩
end Go.Proofs.YtgimdkjgaemcbaaGreat
namespace Go.Rep
open Go.RowKit Go.Lim
def QV (h : Mem) (u : Value) (q : Rat) : Prop := ∃ s ao c m bo e d, u = .agg #[.bool s, .slice ao m.length c, .slice bo d.length e] /\ m.length <= c /\ d.length <= e /\ Dig m /\ Dig d /\ m.length <= 68719476736 /\ d.length <= 68719476736 /\ Sl (NatIn .u32) 1 h ao m /\ Sl (NatIn .u32) 1 h bo d /\ qval s m d = q
def QC (h : Mem) (u : Value) (q : Rat) : Prop := ∃ s ao c m bo e d, u = .agg #[.bool s, .slice ao m.length c, .slice bo d.length e] /\ m.length <= c /\ d.length <= e /\ CanQ s m d q /\ Sl (NatIn .u32) 1 h ao m /\ Sl (NatIn .u32) 1 h bo d
theorem QV.mono : Mono QV := by rintro h h' u x hl ⟨s, ao, c, m, bo, e, d, rfl, h1, h2, h3, h4, h5, h6, h7, h8, h9⟩; exact ⟨s, ao, c, m, bo, e, d, rfl, h1, h2, h3, h4, h5, h6, h7.mono (NatIn.mono _) hl, h8.mono (NatIn.mono _) hl, h9⟩
theorem QC.mono : Mono QC := by rintro h h' u x hl ⟨s, ao, c, m, bo, e, d, rfl, h1, h2, h3, h7, h8⟩; exact ⟨s, ao, c, m, bo, e, d, rfl, h1, h2, h3, h7.mono (NatIn.mono _) hl, h8.mono (NatIn.mono _) hl⟩
theorem dn_le (q : Rat) : lg (dn q) <= hq q := hq_dn q
theorem QC.qv {h : Mem} {u : Value} {q : Rat} (hu : QC h u q) (hn : hq q <= 68719476736) : QV h u q := by
  obtain ⟨s, ao, c, m, bo, e, d, rfl, h1, h2, h3, h7, h8⟩ := hu
  have a1 := hq_num q
  have a2 := dn_le q
  exact ⟨s, ao, c, m, bo, e, d, rfl, h1, h2, h3.1.2.1, h3.2.1, by rw [h3.1.len]; omega, by rw [h3.2.len]; omega, h7, h8, h3.val⟩
theorem QC.zero (h : Mem) : QC h (.agg #[.bool false, .slice none 0 0, .slice none 0 0]) 0 := ⟨false, none, 0, [], none, 0, [], rfl, Nat.le_refl _, Nat.le_refl _, CanQ.zero, Sl.nil _ _ _ _, Sl.nil _ _ _ _⟩
theorem QV.hq {h : Mem} {u : Value} {q : Rat} (hu : QV h u q) : hq q <= 68719476736 := by
  obtain ⟨s, ao, c, m, bo, e, d, rfl, h1, h2, h3, h4, h5, h6, h7, h8, rfl⟩ := hu
  exact qval_hq s m d _ h3 h4 h5 h6 (by omega)
theorem QV.elem : Elem QV 3 := ⟨QV.mono, by rintro h u x ⟨s, ao, c, m, bo, e, d, rfl, _⟩; rfl, by
  rintro h u x ⟨s, ao, c, m, bo, e, d, rfl, _⟩ v hv
  simp [cellsL, Value.cells] at hv
  rcases hv with rfl | rfl | rfl <;> rfl, by decide⟩
theorem QC.elem : Elem QC 3 := ⟨QC.mono, by rintro h u x ⟨s, ao, c, m, bo, e, d, rfl, _⟩; rfl, by
  rintro h u x ⟨s, ao, c, m, bo, e, d, rfl, _⟩ v hv
  simp [cellsL, Value.cells] at hv
  rcases hv with rfl | rfl | rfl <;> rfl, by decide⟩
theorem QC.num {h : Mem} {s : Bool} {ao bo : Option Addr} {n c k e : Nat} {q : Rat} (hu : QC h (.agg #[.bool s, .slice ao n c, .slice bo k e]) q) : ZC h (.agg #[.bool s, .slice ao n c]) q.num /\ NC h (.slice ao n c) q.num.natAbs /\ NC h (.slice bo k e) (dn q) := by
  obtain ⟨_, _, _, m, _, _, d, heq, h1, h2, h3, h7, h8⟩ := hu
  simp only [Value.agg.injEq, Array.mk.injEq, List.cons.injEq, Value.bool.injEq, Value.slice.injEq, and_true] at heq
  obtain ⟨rfl, ⟨rfl, rfl, rfl⟩, rfl, rfl, rfl⟩ := heq
  exact ⟨⟨_, _, _, _, rfl, h1, h3.1, h7⟩, ⟨_, _, _, rfl, h1, h3.1.2, h7⟩, ⟨_, _, _, rfl, h2, h3.2, h8⟩⟩
theorem QC.shape {h : Mem} {u : Value} {q : Rat} (hu : QC h u q) : ∃ s ao n c bo k e, u = .agg #[.bool s, .slice ao n c, .slice bo k e] := by
  obtain ⟨s, ao, c, m, bo, e, d, rfl, _⟩ := hu; exact ⟨_, _, _, _, _, _, _, rfl⟩
theorem QV.shape {h : Mem} {u : Value} {q : Rat} (hu : QV h u q) : ∃ s ao n c bo k e, u = .agg #[.bool s, .slice ao n c, .slice bo k e] := by
  obtain ⟨s, ao, c, m, bo, e, d, rfl, _⟩ := hu; exact ⟨_, _, _, _, _, _, _, rfl⟩
theorem QC.of {h : Mem} {s : Bool} {ao bo : Option Addr} {n c k e : Nat} {q : Rat} (h1 : ZC h (.agg #[.bool s, .slice ao n c]) q.num) (h2 : NC h (.slice bo k e) (dn q)) : QC h (.agg #[.bool s, .slice ao n c, .slice bo k e]) q := by
  obtain ⟨_, _, _, m, heq, a1, a2, a3⟩ := h1
  simp only [Value.agg.injEq, Array.mk.injEq, List.cons.injEq, Value.bool.injEq, Value.slice.injEq, and_true] at heq
  obtain ⟨rfl, rfl, rfl, rfl⟩ := heq
  obtain ⟨_, _, d, heq, b1, b2, b3⟩ := h2
  simp only [Value.slice.injEq] at heq
  obtain ⟨rfl, rfl, rfl⟩ := heq
  exact ⟨_, _, _, _, _, _, _, rfl, a1, b1, ⟨a2, b2⟩, a3, b3⟩
theorem NC.len0 {h : Mem} {ao : Option Addr} {n c k : Nat} (hu : NC h (.slice ao n c) k) : n = 0 ↔ k = 0 := by
  obtain ⟨_, _, d, heq, b1, b2, b3⟩ := hu
  simp only [Value.slice.injEq] at heq
  obtain ⟨rfl, rfl, rfl⟩ := heq
  exact canon_len0 b2
theorem dn_zero (q : Rat) : dn q = 0 ↔ q.den = 1 := by
  unfold dn; split
  · simp [*]
  · have := q.den_nz; omega
end Go.Rep
namespace Go.Proofs.YtgimdkjgaemcbaaGreat
open Go.RowKit Go.Rep Go.Lim
theorem stRat : StructT Tryz.prog 38 3 := by
  have h : (Tryz.prog.info? 38).map (fun i => (i.zero, i.size, i.bytes)) = some (some (.agg #[.bool false, .slice none 0 0, .slice none 0 0]), 3, 56) := by kernel_rfl
  obtain ⟨ti, h1, _, h2, _⟩ := info_parts h
  exact ⟨_, ti, Tryz.underlying38, h1, h2⟩
theorem one3 (s : Bool) (ao bo : Option Addr) (n c k e : Nat) : ∀ v ∈ (#[Value.bool s, .slice ao n c, .slice bo k e] : Array Value).toList, v.oneCell' = true := by
  intro v hv; simp at hv; rcases hv with rfl | rfl | rfl <;> rfl
theorem qone (X : Nat -> Bool) (w : World) (hX : HX X w) : Calls Tryz.prog 202 #[] w (ROut X w NC 1) := by
  have h := NC.lit hX 1 144 (by omega) (by omega)
  have hE : Ext w (w.alloc (.cells #[.int .u32 ((1 : Nat) : Int)] 144)) := (ExtX.refl w).alloc _
  go_enter Tryz.func202, Tryz.ntmps202
  go_wp2_with fail
  go_ret
  exact ⟨hE, _, rfl, h⟩
theorem qden (X : Nat -> Bool) (w : World) (u : Value) (q : Rat) (hX : HX X w) (hu : QC (mk X w) u q) : Calls Tryz.prog 145 #[u] w (ROut X w NC q.den) := by
  obtain ⟨s, ao, n, c, bo, k, e, rfl⟩ := hu.shape
  obtain ⟨W, hW, hE, b0, hz⟩ := boxes1 w #[.bool s, .slice ao n c, .slice bo k e] 38
  have hXW : HX X W := hX.ext hE
  have hd := mkx NC.mono hu.num.2.2 hE
  have hl := hd.len0
  rw [dn_zero] at hl
  obtain ⟨b, hb⟩ : ∃ b, w.heap.size = b := ⟨_, rfl⟩
  rw [hb] at b0 hz
  have k02 := b0.cell 2 rfl
  by_cases h0 : k = 0
  · have hf := hid (hl.1 h0)
    subst h0
    clear hl hd
    go_enter Tryz.func145, Tryz.ntmps145
    go_wp2_with fail
    refine (qone X W hXW).mono ?_
    rintro e w5 ⟨hE5, u5, rfl, hu5⟩
    go_wp2_with fail
    go_ret
    exact ⟨hE.trans hE5, _, rfl, by rw [hf.out]; exact hu5⟩
  · have hf : Hid (dn q = q.den) := hid (by unfold dn; rw [if_neg (fun h => h0 (hl.2 h))])
    have hI : ((k : Int) == 0) = false := beqF (by omega)
    clear hl h0
    go_enter Tryz.func145, Tryz.ntmps145
    go_wp2_with fail
    go_ret
    exact ⟨hE, _, rfl, by rw [<- hf.out]; exact hd⟩
end Go.Proofs.YtgimdkjgaemcbaaGreat
namespace Go.Rep
open Go.RowKit Go.Lim
theorem QV.agg : ∀ h u y, QV h u y -> ∃ cs, u = .agg cs := by rintro h u x ⟨s, ao, c, m, bo, e, d, rfl, _⟩; exact ⟨_, rfl⟩
theorem QC.agg : ∀ h u y, QC h u y -> ∃ cs, u = .agg cs := by rintro h u x ⟨s, ao, c, m, bo, e, d, rfl, _⟩; exact ⟨_, rfl⟩
def Shaped (R : Mem -> Value -> Rat -> Prop) : Prop := ∀ h u q, R h u q -> ∃ s ao n c bo k e, u = .agg #[.bool s, .slice ao n c, .slice bo k e]
theorem QC.shaped : Shaped QC := fun _ _ _ h => h.shape
theorem QV.shaped : Shaped QV := fun _ _ _ h => h.shape
theorem Sl.rat {R : Mem -> Value -> Rat -> Prop} (hR : Shaped R) {X : Nat -> Bool} {w : World} {ao : Option Addr} {l : List Rat} (s : Sl R 3 (mk X w) ao l) (i : Nat) (hi : i < l.length) :
    ∃ g o sg a n c d k e, adr ao (i * 3) = ⟨g, o, none⟩ /\ X g = false /\ Hid (∀ Y W', ExtX Y w W' -> Y g = false -> W'.cell? ⟨g, o, none⟩ = some (.bool sg) /\ W'.cell? ⟨g, o + 1, none⟩ = some (.slice a n c) /\ W'.cell? ⟨g, o + 2, none⟩ = some (.slice d k e)) /\ R (mk X w) (.agg #[.bool sg, .slice a n c, .slice d k e]) l[i] := by
  obtain ⟨u, h1, h2, h3⟩ := s.2 i hi
  obtain ⟨sg, a, n, c, d, k, e, rfl⟩ := hR _ _ _ h3
  have c0 := h2 0 (by simp [Value.cells])
  have c1 := h2 1 (by simp [Value.cells])
  have c2 := h2 2 (by simp [Value.cells])
  refine ⟨(adr ao (i * 3)).block, (adr ao (i * 3)).off, sg, a, n, c, d, k, e, rfl, ?_, hid fun Y W' hE hY => ⟨?_, ?_, ?_⟩, h3⟩
  · cases hx : X (adr ao (i * 3)).block
    · rfl
    · have c9 : mk X w (adr ao (i * 3)) = some (.bool sg) := c0
      simp [mk, hx] at c9
  · exact hE.cellY (mk_cell c0) hY
  · exact hE.cellY (mk_cell c1) hY
  · exact hE.cellY (mk_cell c2) hY
abbrev RC : Mem -> Value -> List Rat -> Prop := SlV QC 3
abbrev RV : Mem -> Value -> List Rat -> Prop := SlV QV 3
abbrev MC : Mem -> Value -> List (List Rat) -> Prop := SlV RC 1
abbrev MV : Mem -> Value -> List (List Rat) -> Prop := SlV RV 1
theorem RC.mono : Mono RC := SlV.mono QC.mono 3
theorem RV.mono : Mono RV := SlV.mono QV.mono 3
theorem MC.mono : Mono MC := SlV.mono RC.mono 1
theorem MV.mono : Mono MV := SlV.mono RV.mono 1
theorem RC.elem : Elem RC 1 := SlV.elem QC.elem
theorem RV.elem : Elem RV 1 := SlV.elem QV.elem
def BR (B : Nat) (l : List Rat) : Prop := ∀ q ∈ l, hq q <= B
def BM (B : Nat) (m : List (List Rat)) : Prop := ∀ r ∈ m, BR B r
theorem Sl.qv {h : Mem} {ao : Option Addr} {l : List Rat} (s : Sl QC 3 h ao l) (hb : BR 68719476736 l) : Sl QV 3 h ao l :=
  ⟨s.1, fun i hi => let ⟨u, h1, h2, h3⟩ := s.2 i hi; ⟨u, h1, h2, h3.qv (hb _ (List.getElem_mem _))⟩⟩
theorem RC.rv {h : Mem} {u : Value} {l : List Rat} (s : RC h u l) (hb : BR 68719476736 l) : RV h u l := by
  obtain ⟨ao, c, rfl, h1, h2⟩ := s
  exact ⟨ao, c, rfl, h1, h2.qv hb⟩
theorem Sl.row {R : Mem -> Value -> Rat -> Prop} {X : Nat -> Bool} {w : World} {ao : Option Addr} {m : List (List Rat)} (s : Sl (SlV R 3) 1 (mk X w) ao m) (i : Nat) (hi : i < m.length) :
    ∃ a c, X (adr ao i).block = false /\ Hid (∀ Y W', ExtX Y w W' -> Y (adr ao i).block = false -> W'.cell? (adr ao i) = some (.slice a m[i].length c)) /\ m[i].length <= c /\ Sl R 3 (mk X w) a m[i] := by
  obtain ⟨u, h1, a, c, rfl, h2, h3⟩ := s.cell SlV.one i hi
  refine ⟨a, c, ?_, hid fun Y W' hE hY => hE.cellY (mk_cell h1) hY, h2, h3⟩
  cases hx : X (adr ao i).block
  · rfl
  · simp [mk, hx] at h1
end Go.Rep
namespace Go.Proofs.YtgimdkjgaemcbaaGreat
open Go.RowKit Go.Rep Go.Lim
theorem slRat : SliceT Tryz.prog 25 38 3 56 (.agg #[.bool false, .slice none 0 0, .slice none 0 0]) := ⟨Tryz.underlying25, by kernel_rfl⟩
theorem tyRat : TyI Tryz.prog 38 3 := let ⟨_, ti, _, h2, h3⟩ := stRat; ⟨ti, h2, h3⟩
end Go.Proofs.YtgimdkjgaemcbaaGreat
namespace Go.Lin
open Go.Lim
end Go.Lin
namespace Go.Lin
open Go.Lim
end Go.Lin
namespace Go.Rep
open Go.RowKit
theorem old_un {α : Type} {R : Mem -> Value -> α -> Prop} (hR : Mono R) {X : Nat -> Bool} {w w' : World} {oo : Option Addr} {u : Value} {x : α} (h : R (mk X w) u x) (hE : Ext w w') (hb : ∀ j, j < w.heap.size -> ob oo j = false) : R (mk (un X oo) w') u x :=
  hR _ _ _ _ (mk_over hE (fun k _ hk => by simp [noY] at hk) fun j hk hz => by simpa [un, hb j hk] using hz) h
section
variable {P : Program} {ops : Array Oper} {Q : Exit -> Act -> World -> Prop} {a : Act} {w : World}
variable {α : Type} {R : Mem -> Value -> α -> Prop} {sz : Nat} {X : Nat -> Bool} {base : Nat} {e : TypeId} {ao : Option Addr} {cap : Nat} {l : List α}
end
end Go.Rep
namespace Go.Lim
theorem cmpN_eq0 (a b : Nat) : (cmpN a b == 0) = decide (a = b) := by
  rw [Bool.eq_iff_iff]; simp only [beq_iff_eq, decide_eq_true_eq]; exact cmpN_eq a b
end Go.Lim
namespace Go.Proofs.YtgimdkjgaemcbaaGreat
open Go.RowKit Go.Rep Go.Lim
set_option maxRecDepth 100000 in
theorem qvalid (X : Nat -> Bool) (w : World) (s : Bool) (ao bo : Option Addr) (c e : Nat) (m d : List Nat) (hX : HX X w) (hm : Sl (NatIn .u32) 1 (mk X w) ao m) (hd : Sl (NatIn .u32) 1 (mk X w) bo d) (hml : m.length <= 68719476736) (hdl : d.length <= 68719476736) (hmd : Dig m) (hdd : Dig d) (hmc : m.length <= c) (hdc : d.length <= e) :
    Calls Tryz.prog 196 #[.agg #[.bool s, .slice ao m.length c, .slice bo d.length e]] w (BOut w (validQ s m d)) := by
  obtain ⟨W, hW, hE, b0, hz⟩ := boxes1 w #[.bool s, .slice ao m.length c, .slice bo d.length e] 38
  have hXW : HX X W := hX.ext hE
  have hmW := hm.mono (NatIn.mono _) (mk_ext hE)
  have hdW := hd.mono (NatIn.mono _) (mk_ext hE)
  obtain ⟨b, hb⟩ : ∃ b, w.heap.size = b := ⟨_, rfl⟩
  rw [hb] at b0 hz
  have k00 := b0.cell 0 rfl
  have k01 := b0.cell 1 rfl
  have k02 := b0.cell 2 rfl
  have hdef : Hid (validQ s m d = (validZ s m && validL d && (decide (d.length = 0) || (decide (0 < m.length) && !(nv d == 1) && (Nat.gcd (nv m) (nv d) == 1))))) := hid rfl
  clear hX hm hd hz
  cases hv : validZ s m
  · have hf : Hid (validQ s m d = false) := hid (by rw [hdef.out, hv]; rfl)
    have hv' := hid hv
    clear hv hdef
    go_enter Tryz.func196, Tryz.ntmps196
    go_wp2_with fail
    refine (ivalid X W s ao c m hmW (by omega)).mono ?_
    rintro e w1 ⟨hE1, rfl⟩
    rw [hv'.out]
    clear k00 k01 k02
    go_wp2_with fail
    go_ret
    exact ⟨hE.trans hE1, ret_bool hf.out.symm⟩
  · cases hl : validL d
    · have hf : Hid (validQ s m d = false) := hid (by rw [hdef.out, hv, hl]; rfl)
      have hv' := hid hv
      have hl' := hid hl
      clear hv hdef hl
      go_enter Tryz.func196, Tryz.ntmps196
      go_wp2_with fail
      refine (ivalid X W s ao c m hmW (by omega)).mono ?_
      rintro e w1 ⟨hE1, rfl⟩
      rw [hv'.out]
      have j02 := (b0.ext0 hE1).cell 2 rfl
      have hd1 := hdW.mono (NatIn.mono _) (mk_ext hE1)
      clear k00 k01 k02
      go_wp2_with fail
      refine (valid_any X _ _ _ _ hd1 (by omega)).mono ?_
      rintro e w2 ⟨rfl, rfl⟩
      rw [hl'.out]
      clear j02
      go_wp2_with fail
      go_ret
      exact ⟨hE.trans hE1, ret_bool hf.out.symm⟩
    · have hf : Hid (validQ s m d = (decide (d.length = 0) || (decide (0 < m.length) && !(nv d == 1) && (Nat.gcd (nv m) (nv d) == 1)))) := hid (by rw [hdef.out, hv, hl]; rfl)
      have hv' := hid hv
      have hl' := hid hl
      have hmv : validL m = true := by unfold validZ at hv; simp at hv; exact hv.1
      have hcm := hid (show Canon m (nv m) from ⟨hmd, hmv, rfl⟩)
      have hcd := hid (show Canon d (nv d) from ⟨hdd, hl, rfl⟩)
      clear hv hdef hl hmv
      by_cases h0 : d.length = 0
      · have hf2 : Hid (validQ s m d = true) := hid (by rw [hf.out, decide_eq_true h0]; rfl)
        obtain rfl : d = [] := List.eq_nil_of_length_eq_zero h0
        clear h0 hf
        simp only [List.length_nil] at hW b0 k02 |-
        go_enter Tryz.func196, Tryz.ntmps196
        go_wp2_with fail
        refine (ivalid X W s ao c m hmW (by omega)).mono ?_
        rintro e w1 ⟨hE1, rfl⟩
        rw [hv'.out]
        have j02 := (b0.ext0 hE1).cell 2 rfl
        have hd1 := hdW.mono (NatIn.mono _) (mk_ext hE1)
        clear k00 k01 k02
        go_wp2_with fail
        refine (valid_any X _ [] _ _ hd1 (by simp)).mono ?_
        rintro e w2 ⟨rfl, rfl⟩
        rw [hl'.out]
        go_wp2_with fail
        go_ret
        exact ⟨hE.trans hE1, ret_bool hf2.out.symm⟩
      · have hdI : ((d.length : Int) == 0) = false := beqF (by omega)
        have hfd : Hid (validQ s m d = (decide (0 < m.length) && !(nv d == 1) && (Nat.gcd (nv m) (nv d) == 1))) := hid (by rw [hf.out, decide_eq_false h0]; rfl)
        clear hf
        go_enter Tryz.func196, Tryz.ntmps196
        go_wp2_with fail
        refine (ivalid X W s ao c m hmW (by omega)).mono ?_
        rintro e' w1 ⟨hE1, rfl⟩
        rw [hv'.out]
        have b1 := b0.ext0 hE1
        have j02 := b1.cell 2 rfl
        have j01 := b1.cell 1 rfl
        have hd1 := hdW.mono (NatIn.mono _) (mk_ext hE1)
        have hm1 := hmW.mono (NatIn.mono _) (mk_ext hE1)
        have hX1 := hXW.ext hE1
        have hmn : NV (mk X w1) (.slice ao m.length c) (nv m) := ⟨ao, c, m, rfl, hmc, hmd, by omega, hm1, by unfold val; rw [Canon.vl hcm.out]⟩
        have hdn : NV (mk X w1) (.slice bo d.length e) (nv d) := ⟨bo, e, d, rfl, hdc, hdd, by omega, hd1, by unfold val; rw [Canon.vl hcd.out]⟩
        clear k00 k01 k02
        have hB := hid b1
        have hEd : Ext w1 w1.drew := (ExtX.refl w1).drew
        have hXd : HX X w1.drew := hX1
        have hdnd : NV (mk X w1.drew) (.slice bo d.length e) (nv d) := hdn
        by_cases hm0 : m.length = 0
        · have hf2 : Hid (validQ s m d = false) := hid (by rw [hfd.out, decide_eq_false (by omega)]; rfl)
          obtain rfl : m = [] := List.eq_nil_of_length_eq_zero hm0
          clear hfd hm0 h0
          simp only [List.length_nil] at b1 j01 hB |-
          go_wp2_with fail
          refine (valid_any X _ _ _ _ hd1 (by omega)).mono ?_
          rintro e' w2 ⟨rfl, rfl⟩
          rw [hl'.out]
          go_wp2_with fail
          try go_quiet (fail)
          go_wp2_with fail
          go_ret
          exact ⟨hE.trans (hE1.trans ((ExtX.refl w1).drewN _)), ret_bool hf2.out.symm⟩
        · have hmI : ((m.length : Int) == 0) = false := beqF (by omega)
          have hfm : Hid (validQ s m d = (!(nv d == 1) && (Nat.gcd (nv m) (nv d) == 1))) := hid (by rw [hfd.out, decide_eq_true (by omega)]; rfl)
          clear hfd hm0 h0
          go_wp2_with fail
          refine (valid_any X _ _ _ _ hd1 (by omega)).mono ?_
          rintro e' w2 ⟨rfl, rfl⟩
          rw [hl'.out]
          go_wp2_with fail
          go_region_held3 (fun w' => w'.cell? ⟨b, 1, none⟩ = some (.slice ao m.length c) /\ w'.cell? ⟨b, 2, none⟩ = some (.slice bo d.length e))
            (first | exact ⟨(hB.out.ext0 (hEd.trans hE5)).cell 1 rfl, (hB.out.ext0 (hEd.trans hE5)).cell 2 rfl⟩ | exact ⟨(hB.out.ext0 (hEd.trans (hE5.trans hE6))).cell 1 rfl, (hB.out.ext0 (hEd.trans (hE5.trans hE6))).cell 2 rfl⟩ | go_keep)
            (first | (go_at_call 202; (with_reducible refine (qone X w1.drew hXd).mono ?_); rintro e5 w5 ⟨hE5, u5, rfl, hu5⟩; have hu5n := hu5.nv (by rw [lg_one]; decide)) | (go_at_call 201; (with_reducible refine (ncmp (mkx NV.mono hdnd hE5) hu5n).mono ?_); rintro e6 w6 ⟨hE6, rfl⟩))
          have hE6' := hEd.trans (hE5.trans hE6)
          have b6 := hB.out.ext0 hE6'
          have hm6 := mkx NV.mono hmn hE6'
          have hd6 := mkx NV.mono hdn hE6'
          have hX6 := hX1.ext hE6'
          clear j01 j02
          have j01 := b6.cell 1 rfl
          have j02 := b6.cell 2 rfl
          rw [cmpN_eq0]
          by_cases h1 : nv d = 1
          · have hf2 : Hid (validQ s m d = false) := hid (by rw [hfm.out, h1]; rfl)
            have hI1 : decide (nv d = 1) = true := decide_eq_true h1
            rw [hI1]
            clear h1 hI1 hfm
            go_wp2_with fail
            go_ret
            exact ⟨hE.trans (hE1.trans hE6'), ret_bool hf2.out.symm⟩
          · have hf2 : Hid (validQ s m d = decide (Nat.gcd (nv m) (nv d) = 1)) := hid (by
              rw [hfm.out, Bool.eq_iff_iff]; simp [h1])
            have hI1 : decide (nv d = 1) = false := decide_eq_false h1
            rw [hI1]
            clear h1 hI1 hfm
            go_wp2_with fail
            refine (ngcd hX6 hm6 hd6).mono ?_
            rintro e7 w7 ⟨hE7, u7, rfl, hu7⟩
            have hX7 := hX6.ext hE7
            have hg7 : lg (Nat.gcd (nv m) (nv d)) <= 1099511627776 := by
              have h1 : Nat.gcd (nv m) (nv d) <= nv d \/ nv d = 0 := by
                by_cases h : nv d = 0
                · exact .inr h
                · exact .inl (Nat.gcd_le_right _ (by omega))
              rcases h1 with h1 | h1
              · exact Nat.le_trans (lg_mono h1) hdn.lg
              · rw [h1, Nat.gcd_zero_right]; exact hmn.lg
            have hg7' := hid hg7
            clear j01 j02 hg7
            go_wp2_with fail
            refine (qone X w7 hX7).mono ?_
            rintro e8 w8 ⟨hE8, u8, rfl, hu8⟩
            have h7n := mkx NV.mono (hu7.nv hg7'.out) hE8
            go_wp2_with fail
            refine (ncmp h7n (hu8.nv (by rw [lg_one]; decide))).mono ?_
            rintro e9 w9 ⟨hE9, rfl⟩
            have hcq : Hid ((cmpN (Nat.gcd (nv m) (nv d)) 1 == 0) = validQ s m d) := hid (by rw [cmpN_eq0, hf2.out])
            generalize cmpN (Nat.gcd (nv m) (nv d)) 1 = cc at *
            go_wp2_with fail
            go_ret
            exact ⟨hE.trans (hE1.trans (hE6'.trans (hE7.trans (hE8.trans hE9)))), ret_bool hcq.out⟩
set_option maxRecDepth 100000 in
theorem qvalue (X : Nat -> Bool) (w : World) (u : Value) (q : Rat) (hX : HX X w) (hu : QV (mk X w) u q) : Calls Tryz.prog 141 #[u] w (ROut X w QC q) := by
  obtain ⟨s, ao, c, m, bo, e, d, rfl, h1, h2, h3, h4, h5, h6, h7, h8, rfl⟩ := hu
  obtain ⟨W, hW, hE, b0, b1, hz⟩ := boxes2 w #[.bool s, .slice ao m.length c, .slice bo d.length e] #[.bool false, .slice none 0 0, .slice none 0 0] 38 38
  have hXW : HX (hidB X w.heap.size 2) W := hX.boxes hz
  have hs1 : Sl (NatIn .u32) 1 (mk (hidB X w.heap.size 2) W) ao m := h7.mono (NatIn.mono _) (le_boxes hE)
  have hs2 : Sl (NatIn .u32) 1 (mk (hidB X w.heap.size 2) W) bo d := h8.mono (NatIn.mono _) (le_boxes hE)
  obtain ⟨b, hb⟩ : ∃ b, w.heap.size = b := ⟨_, rfl⟩
  have hbw : w.heap.size <= b := by omega
  rw [hb] at b0 b1 hz hs1 hs2 hXW
  have c0 := b0.cell 0 rfl
  have c1 := b0.cell 1 rfl
  have c2 := b0.cell 2 rfl
  cases hv : validQ s m d
  · have hz0 := hid (qval_invalid hv)
    have hv' := hid hv
    clear hv
    go_enter Tryz.func141, Tryz.ntmps141
    go_wp2_with fail
    refine (qvalid (hidB X b 2) W s ao bo c e m d hXW hs1 hs2 h5 h6 h3 h4 h1 h2).mono ?_
    rintro e1 w1 ⟨hE1, rfl⟩
    rw [hv'.out]
    have b1' := b1.ext0 hE1
    clear c0 c1 c2
    go_wp2_with ((with_reducible show wpList _ _ _ (⟨_, .store _ _ _, _, _, _, _⟩ :: _) _ _); refine st_storeBox stRat rfl rfl b1' rfl rfl (one3 _ _ _ _ _ _ _) ?_; intro w2 b2 hE2)
    exact bodyPost_ret (results_box rfl rfl stRat b2 rfl) rfl ⟨ExtX.box (hE.trans hE1) hE2 (by omega), _, rfl, by rw [hz0.out]; exact QC.zero _⟩
  · have hv' := hid hv
    clear hv
    go_enter Tryz.func141, Tryz.ntmps141
    go_wp2_with fail
    refine (qvalid (hidB X b 2) W s ao bo c e m d hXW hs1 hs2 h5 h6 h3 h4 h1 h2).mono ?_
    rintro e1 w1 ⟨hE1, rfl⟩
    rw [hv'.out]
    have b0' := b0.ext0 hE1
    have b1' := b1.ext0 hE1
    clear c0 c1 c2
    have c0 := b0'.cell 0 rfl
    have c1 := b0'.cell 1 rfl
    have c2 := b0'.cell 2 rfl
    go_wp2_with ((with_reducible show wpList _ _ _ (⟨_, .store _ _ _, _, _, _, _⟩ :: _) _ _); refine st_storeBox stRat rfl rfl b1' rfl rfl (one3 _ _ _ _ _ _ _) ?_; intro w2 b2 hE2)
    have hs3 := ((hs1.mono (NatIn.mono _) (mk_ext hE1)).mono (NatIn.mono _) (le_store hE2 (by omega) (by omega))).mono (NatIn.mono _) le_unbox
    have hs4 := ((hs2.mono (NatIn.mono _) (mk_ext hE1)).mono (NatIn.mono _) (le_store hE2 (by omega) (by omega))).mono (NatIn.mono _) le_unbox
    exact bodyPost_ret (results_box rfl rfl stRat b2 rfl) rfl ⟨ExtX.box (hE.trans hE1) hE2 (by omega), _, rfl, s, ao, c, m, bo, e, d, rfl, h1, h2, CanQ.of_valid h3 h4 hv'.out, hs3, hs4⟩
end Go.Proofs.YtgimdkjgaemcbaaGreat
namespace Go.Proofs.YtgimdkjgaemcbaaGreat
open Go.RowKit Go.Rep Go.Lim
theorem _root_.Go.Rep.NC.asZ {M : Mem} {u : Value} {n : Nat} (hu : NC M u n) (hn : lg n <= 549755813888) : ∃ ao k c, u = .slice ao k c /\ ZV M (.agg #[.bool false, .slice ao k c]) (n : Int) := by
  obtain ⟨ao, c, l, rfl, h1, h2, h3⟩ := hu
  refine ⟨ao, _, c, rfl, false, ao, c, l, rfl, h1, h2.1, by rw [h2.len]; exact hn, h3, ?_⟩
  unfold zval validZ
  rw [h2.2.1, h2.2.2]; simp
theorem two_stores3 {X : Nat -> Bool} {w w6 : World} {b nb : Nat} {x0 x1 x2 y0 y1 y2 : Value} {T U : TypeId} (h0 : Bx w6 b #[x0, x1, x2] T) (h1 : Bx w6 (b + 1) #[y0, y1, y2] U) (hE : Ext w w6) (hb : w.heap.size <= b) (hn : 2 <= nb) (v0 v1 v2 u0 u1 u2 : Value) :
    ∃ wf, ((((((w6.setCell ⟨b, 0, none⟩ v0).setCell ⟨b, 1, none⟩ v1).setCell ⟨b, 2, none⟩ v2).setCell ⟨b + 1, 0, none⟩ u0).setCell ⟨b + 1, 1, none⟩ u1).setCell ⟨b + 1, 2, none⟩ u2) = wf /\ Bx wf b #[v0, v1, v2] T /\ Bx wf (b + 1) #[u0, u1, u2] U /\ (∀ k cs V, k ≠ b -> k ≠ b + 1 -> Bx w6 k cs V -> Bx wf k cs V) /\ Ext w wf /\ Le (mk (hidB X b nb) w6) (mk (hidB X b nb) wf) := by
  obtain ⟨r1, r2⟩ := h0.set3 v0 v1 v2
  have h1' := h1.ext r2 (ob_other (by omega))
  obtain ⟨r3, r4⟩ := h1'.set3 u0 u1 u2
  refine ⟨_, rfl, r1.ext r4 (ob_other (by omega)), r3, fun k cs V k1 k2 h => (h.ext r2 (ob_other k1)).ext r4 (ob_other k2), ExtX.box (ExtX.box hE r2 hb) r4 (by omega), (le_store r2 (Nat.le_refl _) (by omega)).trans (le_store r4 (by omega) (by omega))⟩
theorem qtimes (X : Nat -> Bool) (w : World) (u v : Value) (x : Int) (n : Nat) (hX : HX X w) (hu : ZC (mk X w) u x) (hv : NC (mk X w) v n) (hx : lg x.natAbs <= 549755813888) (hn : lg n <= 549755813888) : Calls Tryz.prog 144 #[u, v] w (ROut X w ZC (x * n)) := by
  obtain ⟨bo, k, e, rfl, hv2⟩ := hv.asZ hn
  have huz := hu.zv hx
  obtain ⟨s, ao, c, l, rfl, h1, h2, h3⟩ := hu
  obtain ⟨W, hW, hE, b0, b1, hz⟩ := boxes2 w #[.bool s, .slice ao l.length c] #[.bool false, .slice none 0 0] 36 36
  have hXW : HX (hidB X w.heap.size 2) W := hX.boxes hz
  have hu1 := ZV.mono _ _ _ _ (le_boxes (nb := 2) hE) huz
  have hv1 := ZV.mono _ _ _ _ (le_boxes (nb := 2) hE) hv2
  obtain ⟨b, hb⟩ : ∃ b, w.heap.size = b := ⟨_, rfl⟩
  have hbw : w.heap.size <= b := by omega
  rw [hb] at b0 b1 hz hXW hu1 hv1
  have c0 := b0.cell 0 rfl
  have c1 := b0.cell 1 rfl
  clear hx hn
  go_enter Tryz.func144, Tryz.ntmps144
  go_wp2_with fail
  refine (imul (hidB X b 2) W _ _ _ _ hXW hu1 hv1).mono ?_
  rintro e1 w1 ⟨hE1, u1, rfl, s6, a6, c6, l6, rfl, h61, h62, h63⟩
  have b1' := b1.ext0 hE1
  clear c0 c1
  go_wp2_with ((with_reducible show wpList _ _ _ (⟨_, .store _ _ _, _, _, _, _⟩ :: _) _ _); refine st_storeBox stInt rfl rfl b1' rfl rfl (one2 _ _ _ _) ?_; intro w7 r1 r2)
  have h7 := (h63.mono (NatIn.mono _) (le_store r2 (by omega) (by omega))).mono (NatIn.mono _) le_unbox
  exact bodyPost_ret (results_box rfl rfl stInt r1 rfl) rfl ⟨ExtX.box (hE.trans hE1) r2 (by omega), _, rfl, s6, a6, c6, l6, rfl, h61, h62, h7⟩
set_option maxRecDepth 100000 in
theorem qlowest (X : Nat -> Bool) (w : World) (u v : Value) (z : Int) (k : Nat) (hX : HX X w) (hu : ZC (mk X w) u z) (hv : NC (mk X w) v k) (hz : lg z.natAbs <= 549755813888) (hk : lg k <= 549755813888) (hk0 : 0 < k) : Calls Tryz.prog 143 #[u, v] w (ROut X w QC (mkRat z k)) := by
  obtain ⟨s, ao, c, l, rfl, h1, h2, h3⟩ := hu
  have hvn := hv.nv (by omega : lg k <= 1099511627776)
  obtain ⟨bo, e, m, rfl, g1, g2, g3⟩ := hv
  obtain ⟨W, hW, hE, b0, b1, hzz⟩ := boxes2 w #[.bool s, .slice ao l.length c] #[.bool false, .slice none 0 0, .slice none 0 0] 36 38
  have hXW : HX (hidB X w.heap.size 2) W := hX.boxes hzz
  have hu1 : NV (mk (hidB X w.heap.size 2) W) (.slice ao l.length c) z.natAbs := NC.nv ⟨ao, c, l, rfl, h1, h2.2, h3.mono (NatIn.mono _) (le_boxes hE)⟩ (by omega)
  have hv1 := NV.mono _ _ _ _ (le_boxes (nb := 2) hE) hvn
  obtain ⟨b, hb⟩ : ∃ b, w.heap.size = b := ⟨_, rfl⟩
  have hbw : w.heap.size <= b := by omega
  rw [hb] at b0 b1 hzz hXW hu1 hv1
  have c0 := b0.cell 0 rfl
  have c1 := b0.cell 1 rfl
  obtain ⟨g, hg⟩ : ∃ g, Nat.gcd z.natAbs k = g := ⟨_, rfl⟩
  have hg0 : Hid (0 < g) := hid (by rw [<- hg]; exact Nat.gcd_pos_of_pos_right _ hk0)
  have hgl : Hid (lg g <= 1099511627776) := hid (by rw [<- hg]; exact Nat.le_trans (lg_mono (Nat.gcd_le_right _ hk0)) (by omega))
  have hlow := hid (fun (n d : List Nat) (hn : Canon n (z.natAbs / g)) (hd : Canon d (k / g)) => by
    have := CanQ.lowest (s := s) (z := z) (k := k) (n := n) (d := d) (by omega) h2.1 (by rw [hg]; exact hn) (by rw [hg]; exact hd)
    rw [hg] at this; exact this)
  have hdl : Hid (lg (k / g) <= 1099511627776) := hid (Nat.le_trans (lg_mono (Nat.div_le_self _ _)) (by omega))
  have hg' := hid hg
  clear hz hk hk0 h2 g2 hvn hg
  go_enter Tryz.func143, Tryz.ntmps143
  go_wp2_with fail
  refine (ngcd hXW hu1 hv1).mono ?_
  rintro e1 w1 ⟨hE1, ug, rfl, hug⟩
  rw [hg'.out] at hug
  have hX1 := hXW.ext hE1
  have b01 := b0.ext0 hE1
  have j0 := b01.cell 0 rfl
  have j1 := b01.cell 1 rfl
  clear c0 c1
  go_wp2_with fail
  refine (ndiv hX1 (mkx NV.mono hu1 hE1) (hug.nv hgl.out) hg0.out).mono ?_
  rintro e2 w2 ⟨hE2, qu, ru, rfl, hqu, hru⟩
  have hX2 := hX1.ext hE2
  have b02 := b01.ext0 hE2
  clear j0 j1
  go_wp2_with fail
  refine (ndiv hX2 (mkx NV.mono hv1 (hE1.trans hE2)) (mkx NV.mono (hug.nv hgl.out) hE2) hg0.out).mono ?_
  rintro e3 w3 ⟨hE3, du, ru2, rfl, hdu, hru2⟩
  have hX3 := hX2.ext hE3
  go_wp2_with fail
  refine (qone (hidB X b 2) w3 hX3).mono ?_
  rintro e4 w4 ⟨hE4, ou, rfl, hou⟩
  go_wp2_with fail
  refine (ncmp (mkx NV.mono (hdu.nv hdl.out) hE4) (hou.nv (by rw [lg_one]; decide))).mono ?_
  rintro e5 w5 ⟨hE5, rfl⟩
  have hcq : Hid ((cmpN (k / g) 1 == 0) = decide (k / g = 1)) := hid (cmpN_eq0 _ _)
  have hqu5 := mkx NC.mono hqu (hE3.trans (hE4.trans hE5))
  have hdu5 := mkx NC.mono hdu (hE4.trans hE5)
  have hEE := hE2.trans (hE3.trans (hE4.trans hE5))
  have b05 := b01.ext0 hEE
  have b15 := b1.ext0 (hE1.trans hEE)
  have j0 := b05.cell 0 rfl
  have j1 := b05.cell 1 rfl
  obtain ⟨qa, qc, ql, rfl, q1, q2, q3⟩ := hqu5
  obtain ⟨da, dc, dl, rfl, d1, d2, d3⟩ := hdu5
  have hfin := hid (hlow.out ql dl q2 d2)
  have hEf := hE.trans (hE1.trans hEE)
  clear hqu hdu hru hru2 hou hug hlow q2 d2
  by_cases h1' : k / g = 1
  · have hf := hfin.out
    rw [if_pos h1'] at hf
    have hI : (cmpN (k / g) 1 == 0) = true := by rw [hcq.out]; exact decide_eq_true h1'
    generalize cmpN (k / g) 1 = cc at *
    clear hcq h1' hfin
    go_wp2_with ((with_reducible show wpList _ _ _ (⟨_, .store _ _ _, _, _, _, _⟩ :: _) _ _); refine st_storeBox stRat rfl rfl b15 rfl rfl (one3 _ _ _ _ _ _ _) ?_; intro w7 r1 r2)
    have h7 := (q3.mono (NatIn.mono _) (le_store r2 (by omega) (by omega))).mono (NatIn.mono _) le_unbox
    exact bodyPost_ret (results_box rfl rfl stRat r1 rfl) rfl ⟨ExtX.box hEf r2 (by omega), _, rfl, s, qa, qc, ql, none, 0, [], rfl, q1, Nat.le_refl _, hf, h7, Sl.nil _ _ _ _⟩
  · have hf := hfin.out
    rw [if_neg h1'] at hf
    have hI : (cmpN (k / g) 1 == 0) = false := by rw [hcq.out]; exact decide_eq_false h1'
    generalize cmpN (k / g) 1 = cc at *
    clear hcq h1' hfin
    go_wp2_with ((with_reducible show wpList _ _ _ (⟨_, .store _ _ _, _, _, _, _⟩ :: _) _ _); refine st_storeBox stRat rfl rfl b15 rfl rfl (one3 _ _ _ _ _ _ _) ?_; intro w7 r1 r2)
    have h7 := (q3.mono (NatIn.mono _) (le_store r2 (by omega) (by omega))).mono (NatIn.mono _) le_unbox
    have h8 := (d3.mono (NatIn.mono _) (le_store r2 (by omega) (by omega))).mono (NatIn.mono _) le_unbox
    exact bodyPost_ret (results_box rfl rfl stRat r1 rfl) rfl ⟨ExtX.box hEf r2 (by omega), _, rfl, s, qa, qc, ql, da, dc, dl, rfl, q1, d1, hf, h7, h8⟩
theorem qfrom (X : Nat -> Bool) (w : World) (v : Int) (hX : HX X w) (h1 : -9223372036854775808 <= v) (h2 : v <= 9223372036854775807) : Calls Tryz.prog 73 #[.int .i64 v] w (ROut X w QC v) := by
  obtain ⟨W, hW, hE, b0, hz⟩ := boxes1 w #[.bool false, .slice none 0 0, .slice none 0 0] 38
  have hXW : HX (hidB X w.heap.size 1) W := hX.boxes hz
  obtain ⟨b, hb⟩ : ∃ b, w.heap.size = b := ⟨_, rfl⟩
  have hbw : w.heap.size <= b := by omega
  rw [hb] at b0 hz hXW
  have h1' := hid h1
  have h2' := hid h2
  clear h1 h2
  go_enter Tryz.func73, Tryz.ntmps73
  go_wp2_with fail
  refine (ifrom (hidB X b 1) W v hXW h1'.out h2'.out).mono ?_
  rintro e1 w1 ⟨hE1, u1, rfl, s6, a6, c6, l6, rfl, h61, h62, h63⟩
  have b1' := b0.ext0 hE1
  have hcq := CanQ.ofInt h62
  go_wp2_with ((with_reducible show wpList _ _ _ (⟨_, .store _ _ _, _, _, _, _⟩ :: _) _ _); refine st_storeBox stRat rfl rfl b1' rfl rfl (one3 _ _ _ _ _ _ _) ?_; intro w7 r1 r2)
  have h7 := (h63.mono (NatIn.mono _) (le_store r2 (by omega) (by omega))).mono (NatIn.mono _) le_unbox
  exact bodyPost_ret (results_box rfl rfl stRat r1 rfl) rfl ⟨ExtX.box (hE.trans hE1) r2 (by omega), _, rfl, s6, a6, c6, l6, none, 0, [], rfl, h61, Nat.le_refl _, hcq, h7, Sl.nil _ _ _ _⟩
end Go.Proofs.YtgimdkjgaemcbaaGreat
namespace Go.Proofs.YtgimdkjgaemcbaaGreat
open Go.RowKit Go.Rep Go.Lim
set_option maxRecDepth 100000 in
set_option maxHeartbeats 1600000 in
theorem qadd (X : Nat -> Bool) (w : World) (u v : Value) (x y : Rat) (hX : HX X w) (hu : QV (mk X w) u x) (hv : QV (mk X w) v y) : Calls Tryz.prog 76 #[u, v] w (ROut X w QC (x + y)) := by
  have hlx := hid hu.hq
  have hly := hid hv.hq
  obtain ⟨s1, a1, n1, c1, d1, k1, e1, rfl⟩ := hu.shape
  obtain ⟨s2, a2, n2, c2, d2, k2, e2, rfl⟩ := hv.shape
  obtain ⟨W, hW, hE, b0, b1, b2, hz⟩ := boxes3 w #[.bool s1, .slice a1 n1 c1, .slice d1 k1 e1] #[.bool s2, .slice a2 n2 c2, .slice d2 k2 e2] #[.bool false, .slice none 0 0, .slice none 0 0] 38 38 38
  have hXW : HX (hidB X w.heap.size 3) W := hX.boxes hz
  have hu1 := QV.mono _ _ _ _ (le_boxes (nb := 3) hE) hu
  have hv1 := QV.mono _ _ _ _ (le_boxes (nb := 3) hE) hv
  obtain ⟨b, hb⟩ : ∃ b, w.heap.size = b := ⟨_, rfl⟩
  have hbw : w.heap.size <= b := by omega
  rw [hb] at b0 b1 b2 hz hXW hu1 hv1
  have hEd : Ext W W.drew := (ExtX.refl W).drew
  have hXd : HX (hidB X b 3) W.drew := hXW
  have hud : QV (mk (hidB X b 3) W.drew) (.agg #[.bool s1, .slice a1 n1 c1, .slice d1 k1 e1]) x := hu1
  have hvd : QV (mk (hidB X b 3) W.drew) (.agg #[.bool s2, .slice a2 n2 c2, .slice d2 k2 e2]) y := hv1
  have k00 := b0.cell 0 rfl
  have k01 := b0.cell 1 rfl
  have k02 := b0.cell 2 rfl
  have k10 := b1.cell 0 rfl
  have k11 := b1.cell 1 rfl
  have k12 := b1.cell 2 rfl
  clear hu hv
  go_enter Tryz.func76, Tryz.ntmps76
  go_upto_region 1 with (fail)
  go_cut [] from 5 to 8 (fun wx => ∃ s3 a3 n3 c3 d3 k3 e3 s4 a4 n4 c4 d4 k4 e4, Bx wx b #[.bool s3, .slice a3 n3 c3, .slice d3 k3 e3] 38 /\ Bx wx (b + 1) #[.bool s4, .slice a4 n4 c4, .slice d4 k4 e4] 38 /\ Bx wx (b + 1 + 1) #[.bool false, .slice none 0 0, .slice none 0 0] 38 /\ QC (mk (hidB X b 3) wx) (.agg #[.bool s3, .slice a3 n3 c3, .slice d3 k3 e3]) x /\ QC (mk (hidB X b 3) wx) (.agg #[.bool s4, .slice a4 n4 c4, .slice d4 k4 e4]) y /\ Ext w wx)
  case first =>
    go_region_with (first | (go_at_call 141; (with_reducible refine (qvalue (hidB X b 3) W.drew _ x hXd hud).mono ?_); rintro ee w5 ⟨hE5, u5, rfl, hq5⟩; obtain ⟨s5, a5, n5, c5, d5, k5, e5, rfl⟩ := hq5.shape; have bb0 := b0.ext0 (hEd.trans hE5); have bb1 := b1.ext0 (hEd.trans hE5); have e00 := bb0.cell 0 rfl; have e01 := bb0.cell 1 rfl; have e02 := bb0.cell 2 rfl; have e10 := bb1.cell 0 rfl; have e11 := bb1.cell 1 rfl; have e12 := bb1.cell 2 rfl) | (go_at_call 141; (with_reducible refine (qvalue (hidB X b 3) w5 _ y (HX.ext hXd hE5) (mkx QV.mono hvd hE5)).mono ?_); rintro ee w6 ⟨hE6, u6, rfl, hq6⟩; obtain ⟨s6, a6, n6, c6, d6, k6, e6, rfl⟩ := hq6.shape; have bb2 := bb0.ext0 hE6; have bb3 := bb1.ext0 hE6; have g00 := bb2.cell 0 rfl; have g01 := bb2.cell 1 rfl; have g02 := bb2.cell 2 rfl; have g10 := bb3.cell 0 rfl; have g11 := bb3.cell 1 rfl; have g12 := bb3.cell 2 rfl; have fr0 := bb2.frozen 0; have fr1 := bb2.frozen 1; have fr4 := bb2.frozen 2; have fr2 := bb3.frozen 0; have fr3 := bb3.frozen 1; have fr5 := bb3.frozen 2))
    all_goals
      obtain ⟨wf, hwf, q0, q1, q2, q3, q4⟩ := two_stores3 (X := X) (nb := 3) bb2 bb3 (hE.trans ((hEd.trans hE5).trans hE6)) hbw (by omega) (.bool s5) (.slice a5 n5 c5) (.slice d5 k5 e5) (.bool s6) (.slice a6 n6 c6) (.slice d6 k6 e6)
      rw [hwf]
      have hfx : QC (mk (hidB X b 3) wf) (.agg #[.bool s5, .slice a5 n5 c5, .slice d5 k5 e5]) x := QC.mono _ _ _ _ q4 (mkx QC.mono hq5 hE6)
      have hfy : QC (mk (hidB X b 3) wf) (.agg #[.bool s6, .slice a6 n6 c6, .slice d6 k6 e6]) y := QC.mono _ _ _ _ q4 hq6
      have q5 := q2 (b + 1 + 1) _ _ (by omega) (by omega) ((b2.ext0 (hEd.trans hE5)).ext0 hE6)
      clear e00 e01 e02 e10 e11 e12 g00 g01 g02 g10 g11 g12 fr0 fr1 fr2 fr3 fr4 fr5 k00 k01 k02 k10 k11 k12 hwf
      go_wp2_with fail
      go_meet
      exact ⟨_, _, _, _, _, _, _, _, _, _, _, _, _, _, q0, q1, q5, hfx, hfy, q3⟩
  case rest =>
    clear k00 k01 k02 k10 k11 k12 b0 b1 b2 hu1 hv1 hud hvd hXd hEd hW
    obtain ⟨s3, a3, n3, c3, d3, k3, e3, s4, a4, n4, c4, d4, k4, e4, b0, b1, b2, hx, hy, hE1⟩ := hcut
    have hzz : w.heap.size + 3 <= wc.heap.size := by have := b2.lt; omega
    obtain ⟨hxz, hxm, hxdn⟩ := hx.num
    obtain ⟨hyz, hym, hydn⟩ := hy.num
    have hXc : HX (hidB X b 3) wc := hX.boxes' hE1 (by have := hzz; omega) hzz
    have k00 := b0.cell 0 rfl
    have k01 := b0.cell 1 rfl
    have k02 := b0.cell 2 rfl
    have k10 := b1.cell 0 rfl
    have k11 := b1.cell 1 rfl
    have k12 := b1.cell 2 rfl
    have hEd : Ext wc wc.drew := (ExtX.refl wc).drew
    have hXd : HX (hidB X b 3) wc.drew := hXc
    have hxd : QC (mk (hidB X b 3) wc.drew) (.agg #[.bool s3, .slice a3 n3 c3, .slice d3 k3 e3]) x := hx
    have hyd : QC (mk (hidB X b 3) wc.drew) (.agg #[.bool s4, .slice a4 n4 c4, .slice d4 k4 e4]) y := hy
    have hxzd : ZC (mk (hidB X b 3) wc.drew) (.agg #[.bool s3, .slice a3 n3 c3]) x.num := hxz
    have hyzd : ZC (mk (hidB X b 3) wc.drew) (.agg #[.bool s4, .slice a4 n4 c4]) y.num := hyz
    have bxn : lg x.num.natAbs <= 549755813888 := Nat.le_trans (Nat.le_trans (hq_num x) hlx.out) (by omega)
    have byn : lg y.num.natAbs <= 549755813888 := Nat.le_trans (Nat.le_trans (hq_num y) hly.out) (by omega)
    have bxd : lg x.den <= 549755813888 := Nat.le_trans (Nat.le_trans (hq_den x) hlx.out) (by omega)
    have byd : lg y.den <= 549755813888 := Nat.le_trans (Nat.le_trans (hq_den y) hly.out) (by omega)
    have bp1 : lg (x.num * (y.den : Int)).natAbs <= 274877906944 := by rw [Int.natAbs_mul, Int.natAbs_natCast]; have := lg_mul x.num.natAbs y.den; have := hq_num x; have := hq_den y; have := hlx.out; have := hly.out; omega
    have bp2 : lg (y.num * (x.den : Int)).natAbs <= 274877906944 := by rw [Int.natAbs_mul, Int.natAbs_natCast]; have := lg_mul y.num.natAbs x.den; have := hq_num y; have := hq_den x; have := hlx.out; have := hly.out; omega
    have bdd : lg (x.den * y.den) <= 274877906944 := by have := lg_mul x.den y.den; have := hq_den x; have := hq_den y; have := hlx.out; have := hly.out; omega
    have bnn : lg (x.num * y.num).natAbs <= 274877906944 := by rw [Int.natAbs_mul]; have := lg_mul x.num.natAbs y.num.natAbs; have := hq_num x; have := hq_num y; have := hlx.out; have := hly.out; omega
    have bd0 : 0 < x.den * y.den := Nat.mul_pos x.den_pos y.den_pos
    have hB := hid (And.intro b0 b1)
    have hS : Hid (∀ W', Ext wc.drew W' -> W'.cell? ⟨b, 0, none⟩ = some (.bool s3) /\ W'.cell? ⟨b, 1, none⟩ = some (.slice a3 n3 c3) /\ W'.cell? ⟨b, 2, none⟩ = some (.slice d3 k3 e3) /\ W'.cell? ⟨b + 1, 0, none⟩ = some (.bool s4) /\ W'.cell? ⟨b + 1, 1, none⟩ = some (.slice a4 n4 c4) /\ W'.cell? ⟨b + 1, 2, none⟩ = some (.slice d4 k4 e4)) :=
      hid fun W' h => ⟨(b0.ext0 (hEd.trans h)).cell 0 rfl, (b0.ext0 (hEd.trans h)).cell 1 rfl, (b0.ext0 (hEd.trans h)).cell 2 rfl, (b1.ext0 (hEd.trans h)).cell 0 rfl, (b1.ext0 (hEd.trans h)).cell 1 rfl, (b1.ext0 (hEd.trans h)).cell 2 rfl⟩
    have hl3 := hxdn.len0
    have hl4 := hydn.len0
    rw [dn_zero] at hl3 hl4
    have bsum : lg (x.num * (y.den : Int) + y.num * (x.den : Int)).natAbs <= 549755813888 := by
      have h1 := lg_mono (Int.natAbs_add_le (x.num * (y.den : Int)) (y.num * (x.den : Int)))
      have h2 := lg_add (x.num * (y.den : Int)).natAbs (y.num * (x.den : Int)).natAbs
      omega
    have hfin : Hid (mkRat (x.num * (y.den : Int) + y.num * (x.den : Int)) (x.den * y.den) = x + y) := hid (Rat.add_def' x y).symm
    by_cases hk : k3 = 0 /\ k4 = 0
    · have hd3 := hid (hl3.1 hk.1)
      have hd4 := hid (hl4.1 hk.2)
      obtain ⟨rfl, rfl⟩ := hk
      have hsum : Hid (((x.num + y.num : Int) : Rat) = x + y) := hid (by
        rw [Rat.intCast_add]
        conv => rhs; rw [<- Rat.mkRat_self x, <- Rat.mkRat_self y]
        rw [hd3.out, hd4.out, <- Rat.mk_den_one, <- Rat.mk_den_one, Rat.mk_eq_mkRat, Rat.mk_eq_mkRat])
      clear hl3 hl4
      go_wp2_with fail
      refine (iadd (hidB X b 3) wc _ _ _ _ hXc (hxz.zv bxn) (hyz.zv byn)).mono ?_
      rintro ee w5 ⟨hE5, u5, rfl, s6, a6, c6, l6, rfl, h61, h62, h63⟩
      have b2' := b2.ext0 hE5
      have hcq := CanQ.ofInt h62
      rw [hsum.out] at hcq
      clear k00 k01 k02 k10 k11 k12
      go_wp2_with ((with_reducible show wpList _ _ _ (⟨_, .store _ _ _, _, _, _, _⟩ :: _) _ _); refine st_storeBox stRat rfl rfl b2' rfl rfl (one3 _ _ _ _ _ _ _) ?_; intro w7 r1 r2)
      have h7 := (h63.mono (NatIn.mono _) (le_store r2 (by omega) (by omega))).mono (NatIn.mono _) le_unbox
      exact bodyPost_ret (results_box rfl rfl stRat r1 rfl) rfl ⟨ExtX.box (hE1.trans hE5) r2 (by omega), _, rfl, s6, a6, c6, l6, none, 0, [], rfl, h61, Nat.le_refl _, hcq, h7, Sl.nil _ _ _ _⟩
    · have hk3 : Hid (¬ (k3 = 0 /\ k4 = 0)) := hid hk
      rcases (by omega : ¬ k3 = 0 \/ (k3 = 0 /\ ¬ k4 = 0)) with h3 | ⟨h3, h4⟩
      · have hI : ((k3 : Int) == 0) = false := beqF (by omega)
        clear hk hl3 hl4 h3
        go_wp2_with fail
        go_region_held3 (fun w' => w'.cell? ⟨b, 0, none⟩ = some (.bool s3) /\ w'.cell? ⟨b, 1, none⟩ = some (.slice a3 n3 c3) /\ w'.cell? ⟨b, 2, none⟩ = some (.slice d3 k3 e3) /\ w'.cell? ⟨b + 1, 0, none⟩ = some (.bool s4) /\ w'.cell? ⟨b + 1, 1, none⟩ = some (.slice a4 n4 c4) /\ w'.cell? ⟨b + 1, 2, none⟩ = some (.slice d4 k4 e4))
          (first | exact hS.out _ t1 | exact hS.out _ t2 | exact hS.out _ t3 | exact hS.out _ t4 | exact hS.out _ t5 | exact hS.out _ t6 | exact hS.out _ t7 | exact hS.out _ t8 | exact hS.out _ t9 | exact ⟨((hB.out.1.ext0 (hEd.trans t9)).ext (bb2.set3 _ _ _).2 (ob_other (by omega))).cell 0 rfl, ((hB.out.1.ext0 (hEd.trans t9)).ext (bb2.set3 _ _ _).2 (ob_other (by omega))).cell 1 rfl, ((hB.out.1.ext0 (hEd.trans t9)).ext (bb2.set3 _ _ _).2 (ob_other (by omega))).cell 2 rfl, ((hB.out.2.ext0 (hEd.trans t9)).ext (bb2.set3 _ _ _).2 (ob_other (by omega))).cell 0 rfl, ((hB.out.2.ext0 (hEd.trans t9)).ext (bb2.set3 _ _ _).2 (ob_other (by omega))).cell 1 rfl, ((hB.out.2.ext0 (hEd.trans t9)).ext (bb2.set3 _ _ _).2 (ob_other (by omega))).cell 2 rfl⟩ | go_keep)
          (first | (go_at_call 145; (with_reducible refine (qden (hidB X b 3) wc.drew _ y hXd hyd).mono ?_); rintro ee w5 ⟨t1, u5, rfl, hu5⟩; have hX5 := HX.ext hXd t1; have hx5 := mkx ZC.mono hxzd t1) | (go_at_call 144; (with_reducible refine (qtimes (hidB X b 3) w5 _ _ x.num y.den hX5 hx5 hu5 bxn byd).mono ?_); rintro ee w6 ⟨hE6, u6, rfl, hu6⟩; have t2 := t1.trans hE6; have hX6 := HX.ext hXd t2; have hx6 := mkx QC.mono hxd t2) | (go_at_call 145; (with_reducible refine (qden (hidB X b 3) w6 _ x hX6 hx6).mono ?_); rintro ee w7 ⟨hE7, u7, rfl, hu7⟩; have t3 := t2.trans hE7; have hX7 := HX.ext hXd t3; have hy7 := mkx ZC.mono hyzd t3) | (go_at_call 144; (with_reducible refine (qtimes (hidB X b 3) w7 _ _ y.num x.den hX7 hy7 hu7 byn bxd).mono ?_); rintro ee w8 ⟨hE8, u8, rfl, hu8⟩; have t4 := t3.trans hE8; have hX8 := HX.ext hXd t4; have hz6 := (mkx ZC.mono hu6 (hE7.trans hE8)).zv (Nat.le_trans bp1 (by decide)); have hz8 := hu8.zv (Nat.le_trans bp2 (by decide))) | (go_at_call 142; (with_reducible refine (iadd (hidB X b 3) w8 _ _ _ _ hX8 hz6 hz8).mono ?_); rintro ee w9 ⟨hE9, u9, rfl, hu9⟩; have t5 := t4.trans hE9; have hX9 := HX.ext hXd t5; have hx9 := mkx QC.mono hxd t5) | (go_at_call 145; (with_reducible refine (qden (hidB X b 3) w9 _ x hX9 hx9).mono ?_); rintro ee w10 ⟨hE10, u10, rfl, hu10⟩; have t6 := t5.trans hE10; have hX10 := HX.ext hXd t6; have hy10 := mkx QC.mono hyd t6) | (go_at_call 145; (with_reducible refine (qden (hidB X b 3) w10 _ y hX10 hy10).mono ?_); rintro ee w11 ⟨hE11, u11, rfl, hu11⟩; have t7 := t6.trans hE11; have hX11 := HX.ext hXd t7; have hm10 := (mkx NC.mono hu10 hE11).nv (Nat.le_trans bxd (by decide)); have hm11 := hu11.nv (Nat.le_trans byd (by decide))) | (go_at_call 146; (with_reducible refine (nmul hX11 hm10 hm11).mono ?_); rintro ee w12 ⟨hE12, u12, rfl, hu12⟩; have t8 := t7.trans hE12; have hX12 := HX.ext hXd t8; have hz9 := mkx ZC.mono hu9 (hE10.trans (hE11.trans hE12))) | (go_at_call 143; (with_reducible refine (qlowest (hidB X b 3) w12 _ _ _ _ hX12 hz9 hu12 bsum (Nat.le_trans bdd (by decide)) bd0).mono ?_); rintro ee w13 ⟨hE13, u13, rfl, hu13⟩; obtain ⟨s13, a13, n13, c13, d13, k13, e13, rfl⟩ := hu13.shape; have t9 := t8.trans hE13; have bb2 := b2.ext0 (hEd.trans t9); have g0 := bb2.cell 0 rfl; have g1 := bb2.cell 1 rfl; have g2 := bb2.cell 2 rfl; have f0 := bb2.frozen 0; have f1 := bb2.frozen 1; have f2 := bb2.frozen 2))
        obtain ⟨r1, r2⟩ := bb2.set3 (.bool s13) (.slice a13 n13 c13) (.slice d13 k13 e13)
        have h7 := QC.mono _ _ _ _ le_unbox (QC.mono _ _ _ _ (le_store r2 (by omega) (by omega)) hu13)
        rw [hfin.out] at h7
        have hEf : Ext w _ := ExtX.box (hE1.trans (hEd.trans t9)) r2 (by omega)
        clear g0 g1 g2 f0 f1 f2 k00 k01 k02 k10 k11 k12 hS hB
        go_wp2_with fail
        exact bodyPost_ret (results_box rfl rfl stRat r1 rfl) rfl ⟨hEf, _, rfl, h7⟩
      · have hI : ((k4 : Int) == 0) = false := beqF (by omega)
        subst h3
        clear hk hl3 hl4 h4
        go_wp2_with fail
        go_region_held3 (fun w' => w'.cell? ⟨b, 0, none⟩ = some (.bool s3) /\ w'.cell? ⟨b, 1, none⟩ = some (.slice a3 n3 c3) /\ w'.cell? ⟨b, 2, none⟩ = some (.slice d3 0 e3) /\ w'.cell? ⟨b + 1, 0, none⟩ = some (.bool s4) /\ w'.cell? ⟨b + 1, 1, none⟩ = some (.slice a4 n4 c4) /\ w'.cell? ⟨b + 1, 2, none⟩ = some (.slice d4 k4 e4))
          (first | exact hS.out _ t1 | exact hS.out _ t2 | exact hS.out _ t3 | exact hS.out _ t4 | exact hS.out _ t5 | exact hS.out _ t6 | exact hS.out _ t7 | exact hS.out _ t8 | exact hS.out _ t9 | exact ⟨((hB.out.1.ext0 (hEd.trans t9)).ext (bb2.set3 _ _ _).2 (ob_other (by omega))).cell 0 rfl, ((hB.out.1.ext0 (hEd.trans t9)).ext (bb2.set3 _ _ _).2 (ob_other (by omega))).cell 1 rfl, ((hB.out.1.ext0 (hEd.trans t9)).ext (bb2.set3 _ _ _).2 (ob_other (by omega))).cell 2 rfl, ((hB.out.2.ext0 (hEd.trans t9)).ext (bb2.set3 _ _ _).2 (ob_other (by omega))).cell 0 rfl, ((hB.out.2.ext0 (hEd.trans t9)).ext (bb2.set3 _ _ _).2 (ob_other (by omega))).cell 1 rfl, ((hB.out.2.ext0 (hEd.trans t9)).ext (bb2.set3 _ _ _).2 (ob_other (by omega))).cell 2 rfl⟩ | go_keep)
          (first | (go_at_call 145; (with_reducible refine (qden (hidB X b 3) wc.drew _ y hXd hyd).mono ?_); rintro ee w5 ⟨t1, u5, rfl, hu5⟩; have hX5 := HX.ext hXd t1; have hx5 := mkx ZC.mono hxzd t1) | (go_at_call 144; (with_reducible refine (qtimes (hidB X b 3) w5 _ _ x.num y.den hX5 hx5 hu5 bxn byd).mono ?_); rintro ee w6 ⟨hE6, u6, rfl, hu6⟩; have t2 := t1.trans hE6; have hX6 := HX.ext hXd t2; have hx6 := mkx QC.mono hxd t2) | (go_at_call 145; (with_reducible refine (qden (hidB X b 3) w6 _ x hX6 hx6).mono ?_); rintro ee w7 ⟨hE7, u7, rfl, hu7⟩; have t3 := t2.trans hE7; have hX7 := HX.ext hXd t3; have hy7 := mkx ZC.mono hyzd t3) | (go_at_call 144; (with_reducible refine (qtimes (hidB X b 3) w7 _ _ y.num x.den hX7 hy7 hu7 byn bxd).mono ?_); rintro ee w8 ⟨hE8, u8, rfl, hu8⟩; have t4 := t3.trans hE8; have hX8 := HX.ext hXd t4; have hz6 := (mkx ZC.mono hu6 (hE7.trans hE8)).zv (Nat.le_trans bp1 (by decide)); have hz8 := hu8.zv (Nat.le_trans bp2 (by decide))) | (go_at_call 142; (with_reducible refine (iadd (hidB X b 3) w8 _ _ _ _ hX8 hz6 hz8).mono ?_); rintro ee w9 ⟨hE9, u9, rfl, hu9⟩; have t5 := t4.trans hE9; have hX9 := HX.ext hXd t5; have hx9 := mkx QC.mono hxd t5) | (go_at_call 145; (with_reducible refine (qden (hidB X b 3) w9 _ x hX9 hx9).mono ?_); rintro ee w10 ⟨hE10, u10, rfl, hu10⟩; have t6 := t5.trans hE10; have hX10 := HX.ext hXd t6; have hy10 := mkx QC.mono hyd t6) | (go_at_call 145; (with_reducible refine (qden (hidB X b 3) w10 _ y hX10 hy10).mono ?_); rintro ee w11 ⟨hE11, u11, rfl, hu11⟩; have t7 := t6.trans hE11; have hX11 := HX.ext hXd t7; have hm10 := (mkx NC.mono hu10 hE11).nv (Nat.le_trans bxd (by decide)); have hm11 := hu11.nv (Nat.le_trans byd (by decide))) | (go_at_call 146; (with_reducible refine (nmul hX11 hm10 hm11).mono ?_); rintro ee w12 ⟨hE12, u12, rfl, hu12⟩; have t8 := t7.trans hE12; have hX12 := HX.ext hXd t8; have hz9 := mkx ZC.mono hu9 (hE10.trans (hE11.trans hE12))) | (go_at_call 143; (with_reducible refine (qlowest (hidB X b 3) w12 _ _ _ _ hX12 hz9 hu12 bsum (Nat.le_trans bdd (by decide)) bd0).mono ?_); rintro ee w13 ⟨hE13, u13, rfl, hu13⟩; obtain ⟨s13, a13, n13, c13, d13, k13, e13, rfl⟩ := hu13.shape; have t9 := t8.trans hE13; have bb2 := b2.ext0 (hEd.trans t9); have g0 := bb2.cell 0 rfl; have g1 := bb2.cell 1 rfl; have g2 := bb2.cell 2 rfl; have f0 := bb2.frozen 0; have f1 := bb2.frozen 1; have f2 := bb2.frozen 2))
        obtain ⟨r1, r2⟩ := bb2.set3 (.bool s13) (.slice a13 n13 c13) (.slice d13 k13 e13)
        have h7 := QC.mono _ _ _ _ le_unbox (QC.mono _ _ _ _ (le_store r2 (by omega) (by omega)) hu13)
        rw [hfin.out] at h7
        have hEf : Ext w _ := ExtX.box (hE1.trans (hEd.trans t9)) r2 (by omega)
        clear g0 g1 g2 f0 f1 f2 k00 k01 k02 k10 k11 k12 hS hB
        go_wp2_with fail
        exact bodyPost_ret (results_box rfl rfl stRat r1 rfl) rfl ⟨hEf, _, rfl, h7⟩
end Go.Proofs.YtgimdkjgaemcbaaGreat
namespace Go.Proofs.YtgimdkjgaemcbaaGreat
open Go.RowKit Go.Rep Go.Lim
set_option maxRecDepth 100000 in
set_option maxHeartbeats 1600000 in
theorem qmul (X : Nat -> Bool) (w : World) (u v : Value) (x y : Rat) (hX : HX X w) (hu : QV (mk X w) u x) (hv : QV (mk X w) v y) : Calls Tryz.prog 122 #[u, v] w (ROut X w QC (x * y)) := by
  have hlx := hid hu.hq
  have hly := hid hv.hq
  obtain ⟨s1, a1, n1, c1, d1, k1, e1, rfl⟩ := hu.shape
  obtain ⟨s2, a2, n2, c2, d2, k2, e2, rfl⟩ := hv.shape
  obtain ⟨W, hW, hE, b0, b1, b2, hz⟩ := boxes3 w #[.bool s1, .slice a1 n1 c1, .slice d1 k1 e1] #[.bool s2, .slice a2 n2 c2, .slice d2 k2 e2] #[.bool false, .slice none 0 0, .slice none 0 0] 38 38 38
  have hXW : HX (hidB X w.heap.size 3) W := hX.boxes hz
  have hu1 := QV.mono _ _ _ _ (le_boxes (nb := 3) hE) hu
  have hv1 := QV.mono _ _ _ _ (le_boxes (nb := 3) hE) hv
  obtain ⟨b, hb⟩ : ∃ b, w.heap.size = b := ⟨_, rfl⟩
  have hbw : w.heap.size <= b := by omega
  rw [hb] at b0 b1 b2 hz hXW hu1 hv1
  have hEd : Ext W W.drew := (ExtX.refl W).drew
  have hXd : HX (hidB X b 3) W.drew := hXW
  have hud : QV (mk (hidB X b 3) W.drew) (.agg #[.bool s1, .slice a1 n1 c1, .slice d1 k1 e1]) x := hu1
  have hvd : QV (mk (hidB X b 3) W.drew) (.agg #[.bool s2, .slice a2 n2 c2, .slice d2 k2 e2]) y := hv1
  have k00 := b0.cell 0 rfl
  have k01 := b0.cell 1 rfl
  have k02 := b0.cell 2 rfl
  have k10 := b1.cell 0 rfl
  have k11 := b1.cell 1 rfl
  have k12 := b1.cell 2 rfl
  clear hu hv
  go_enter Tryz.func122, Tryz.ntmps122
  go_upto_region 1 with (fail)
  go_cut [] from 5 to 8 (fun wx => ∃ s3 a3 n3 c3 d3 k3 e3 s4 a4 n4 c4 d4 k4 e4, Bx wx b #[.bool s3, .slice a3 n3 c3, .slice d3 k3 e3] 38 /\ Bx wx (b + 1) #[.bool s4, .slice a4 n4 c4, .slice d4 k4 e4] 38 /\ Bx wx (b + 1 + 1) #[.bool false, .slice none 0 0, .slice none 0 0] 38 /\ QC (mk (hidB X b 3) wx) (.agg #[.bool s3, .slice a3 n3 c3, .slice d3 k3 e3]) x /\ QC (mk (hidB X b 3) wx) (.agg #[.bool s4, .slice a4 n4 c4, .slice d4 k4 e4]) y /\ Ext w wx)
  case first =>
    go_region_with (first | (go_at_call 141; (with_reducible refine (qvalue (hidB X b 3) W.drew _ x hXd hud).mono ?_); rintro ee w5 ⟨hE5, u5, rfl, hq5⟩; obtain ⟨s5, a5, n5, c5, d5, k5, e5, rfl⟩ := hq5.shape; have bb0 := b0.ext0 (hEd.trans hE5); have bb1 := b1.ext0 (hEd.trans hE5); have e00 := bb0.cell 0 rfl; have e01 := bb0.cell 1 rfl; have e02 := bb0.cell 2 rfl; have e10 := bb1.cell 0 rfl; have e11 := bb1.cell 1 rfl; have e12 := bb1.cell 2 rfl) | (go_at_call 141; (with_reducible refine (qvalue (hidB X b 3) w5 _ y (HX.ext hXd hE5) (mkx QV.mono hvd hE5)).mono ?_); rintro ee w6 ⟨hE6, u6, rfl, hq6⟩; obtain ⟨s6, a6, n6, c6, d6, k6, e6, rfl⟩ := hq6.shape; have bb2 := bb0.ext0 hE6; have bb3 := bb1.ext0 hE6; have g00 := bb2.cell 0 rfl; have g01 := bb2.cell 1 rfl; have g02 := bb2.cell 2 rfl; have g10 := bb3.cell 0 rfl; have g11 := bb3.cell 1 rfl; have g12 := bb3.cell 2 rfl; have fr0 := bb2.frozen 0; have fr1 := bb2.frozen 1; have fr4 := bb2.frozen 2; have fr2 := bb3.frozen 0; have fr3 := bb3.frozen 1; have fr5 := bb3.frozen 2))
    all_goals
      obtain ⟨wf, hwf, q0, q1, q2, q3, q4⟩ := two_stores3 (X := X) (nb := 3) bb2 bb3 (hE.trans ((hEd.trans hE5).trans hE6)) hbw (by omega) (.bool s5) (.slice a5 n5 c5) (.slice d5 k5 e5) (.bool s6) (.slice a6 n6 c6) (.slice d6 k6 e6)
      rw [hwf]
      have hfx : QC (mk (hidB X b 3) wf) (.agg #[.bool s5, .slice a5 n5 c5, .slice d5 k5 e5]) x := QC.mono _ _ _ _ q4 (mkx QC.mono hq5 hE6)
      have hfy : QC (mk (hidB X b 3) wf) (.agg #[.bool s6, .slice a6 n6 c6, .slice d6 k6 e6]) y := QC.mono _ _ _ _ q4 hq6
      have q5 := q2 (b + 1 + 1) _ _ (by omega) (by omega) ((b2.ext0 (hEd.trans hE5)).ext0 hE6)
      clear e00 e01 e02 e10 e11 e12 g00 g01 g02 g10 g11 g12 fr0 fr1 fr2 fr3 fr4 fr5 k00 k01 k02 k10 k11 k12 hwf
      go_wp2_with fail
      go_meet
      exact ⟨_, _, _, _, _, _, _, _, _, _, _, _, _, _, q0, q1, q5, hfx, hfy, q3⟩
  case rest =>
    clear k00 k01 k02 k10 k11 k12 b0 b1 b2 hu1 hv1 hud hvd hXd hEd hW
    obtain ⟨s3, a3, n3, c3, d3, k3, e3, s4, a4, n4, c4, d4, k4, e4, b0, b1, b2, hx, hy, hE1⟩ := hcut
    have hzz : w.heap.size + 3 <= wc.heap.size := by have := b2.lt; omega
    obtain ⟨hxz, hxm, hxdn⟩ := hx.num
    obtain ⟨hyz, hym, hydn⟩ := hy.num
    have hXc : HX (hidB X b 3) wc := hX.boxes' hE1 (by have := hzz; omega) hzz
    have k00 := b0.cell 0 rfl
    have k01 := b0.cell 1 rfl
    have k02 := b0.cell 2 rfl
    have k10 := b1.cell 0 rfl
    have k11 := b1.cell 1 rfl
    have k12 := b1.cell 2 rfl
    have hEd : Ext wc wc.drew := (ExtX.refl wc).drew
    have hXd : HX (hidB X b 3) wc.drew := hXc
    have hxd : QC (mk (hidB X b 3) wc.drew) (.agg #[.bool s3, .slice a3 n3 c3, .slice d3 k3 e3]) x := hx
    have hyd : QC (mk (hidB X b 3) wc.drew) (.agg #[.bool s4, .slice a4 n4 c4, .slice d4 k4 e4]) y := hy
    have hxzd : ZC (mk (hidB X b 3) wc.drew) (.agg #[.bool s3, .slice a3 n3 c3]) x.num := hxz
    have hyzd : ZC (mk (hidB X b 3) wc.drew) (.agg #[.bool s4, .slice a4 n4 c4]) y.num := hyz
    have bxn : lg x.num.natAbs <= 549755813888 := Nat.le_trans (Nat.le_trans (hq_num x) hlx.out) (by omega)
    have byn : lg y.num.natAbs <= 549755813888 := Nat.le_trans (Nat.le_trans (hq_num y) hly.out) (by omega)
    have bxd : lg x.den <= 549755813888 := Nat.le_trans (Nat.le_trans (hq_den x) hlx.out) (by omega)
    have byd : lg y.den <= 549755813888 := Nat.le_trans (Nat.le_trans (hq_den y) hly.out) (by omega)
    have bp1 : lg (x.num * (y.den : Int)).natAbs <= 274877906944 := by rw [Int.natAbs_mul, Int.natAbs_natCast]; have := lg_mul x.num.natAbs y.den; have := hq_num x; have := hq_den y; have := hlx.out; have := hly.out; omega
    have bp2 : lg (y.num * (x.den : Int)).natAbs <= 274877906944 := by rw [Int.natAbs_mul, Int.natAbs_natCast]; have := lg_mul y.num.natAbs x.den; have := hq_num y; have := hq_den x; have := hlx.out; have := hly.out; omega
    have bdd : lg (x.den * y.den) <= 274877906944 := by have := lg_mul x.den y.den; have := hq_den x; have := hq_den y; have := hlx.out; have := hly.out; omega
    have bnn : lg (x.num * y.num).natAbs <= 274877906944 := by rw [Int.natAbs_mul]; have := lg_mul x.num.natAbs y.num.natAbs; have := hq_num x; have := hq_num y; have := hlx.out; have := hly.out; omega
    have bd0 : 0 < x.den * y.den := Nat.mul_pos x.den_pos y.den_pos
    have hB := hid (And.intro b0 b1)
    have hS : Hid (∀ W', Ext wc.drew W' -> W'.cell? ⟨b, 0, none⟩ = some (.bool s3) /\ W'.cell? ⟨b, 1, none⟩ = some (.slice a3 n3 c3) /\ W'.cell? ⟨b, 2, none⟩ = some (.slice d3 k3 e3) /\ W'.cell? ⟨b + 1, 0, none⟩ = some (.bool s4) /\ W'.cell? ⟨b + 1, 1, none⟩ = some (.slice a4 n4 c4) /\ W'.cell? ⟨b + 1, 2, none⟩ = some (.slice d4 k4 e4)) :=
      hid fun W' h => ⟨(b0.ext0 (hEd.trans h)).cell 0 rfl, (b0.ext0 (hEd.trans h)).cell 1 rfl, (b0.ext0 (hEd.trans h)).cell 2 rfl, (b1.ext0 (hEd.trans h)).cell 0 rfl, (b1.ext0 (hEd.trans h)).cell 1 rfl, (b1.ext0 (hEd.trans h)).cell 2 rfl⟩
    have hl3 := hxdn.len0
    have hl4 := hydn.len0
    rw [dn_zero] at hl3 hl4
    have hxv := hxzd.zv bxn
    have hyv := hyzd.zv byn
    have hfin : Hid (mkRat (x.num * y.num) (x.den * y.den) = x * y) := hid (Rat.mul_def' x y).symm
    by_cases hk : k3 = 0 /\ k4 = 0
    · have hd3 := hid (hl3.1 hk.1)
      have hd4 := hid (hl4.1 hk.2)
      obtain ⟨rfl, rfl⟩ := hk
      have hsum : Hid (((x.num * y.num : Int) : Rat) = x * y) := hid (by
        rw [Rat.intCast_mul]
        conv => rhs; rw [<- Rat.mkRat_self x, <- Rat.mkRat_self y]
        rw [hd3.out, hd4.out, <- Rat.mk_den_one, <- Rat.mk_den_one, Rat.mk_eq_mkRat, Rat.mk_eq_mkRat])
      clear hl3 hl4
      go_wp2_with fail
      refine (imul (hidB X b 3) wc _ _ _ _ hXc (hxz.zv bxn) (hyz.zv byn)).mono ?_
      rintro ee w5 ⟨hE5, u5, rfl, s6, a6, c6, l6, rfl, h61, h62, h63⟩
      have b2' := b2.ext0 hE5
      have hcq := CanQ.ofInt h62
      rw [hsum.out] at hcq
      clear k00 k01 k02 k10 k11 k12
      go_wp2_with ((with_reducible show wpList _ _ _ (⟨_, .store _ _ _, _, _, _, _⟩ :: _) _ _); refine st_storeBox stRat rfl rfl b2' rfl rfl (one3 _ _ _ _ _ _ _) ?_; intro w7 r1 r2)
      have h7 := (h63.mono (NatIn.mono _) (le_store r2 (by omega) (by omega))).mono (NatIn.mono _) le_unbox
      exact bodyPost_ret (results_box rfl rfl stRat r1 rfl) rfl ⟨ExtX.box (hE1.trans hE5) r2 (by omega), _, rfl, s6, a6, c6, l6, none, 0, [], rfl, h61, Nat.le_refl _, hcq, h7, Sl.nil _ _ _ _⟩
    · rcases (by omega : ¬ k3 = 0 \/ (k3 = 0 /\ ¬ k4 = 0)) with h3 | ⟨h3, h4⟩
      · have hI : ((k3 : Int) == 0) = false := beqF (by omega)
        clear hk hl3 hl4 h3
        go_wp2_with fail
        go_region_held3 (fun w' => w'.cell? ⟨b, 0, none⟩ = some (.bool s3) /\ w'.cell? ⟨b, 1, none⟩ = some (.slice a3 n3 c3) /\ w'.cell? ⟨b, 2, none⟩ = some (.slice d3 k3 e3) /\ w'.cell? ⟨b + 1, 0, none⟩ = some (.bool s4) /\ w'.cell? ⟨b + 1, 1, none⟩ = some (.slice a4 n4 c4) /\ w'.cell? ⟨b + 1, 2, none⟩ = some (.slice d4 k4 e4))
          (first | exact hS.out _ t1 | exact hS.out _ t2 | exact hS.out _ t3 | exact hS.out _ t4 | exact hS.out _ t5 | exact ⟨((hB.out.1.ext0 (hEd.trans t5)).ext (bb2.set3 _ _ _).2 (ob_other (by omega))).cell 0 rfl, ((hB.out.1.ext0 (hEd.trans t5)).ext (bb2.set3 _ _ _).2 (ob_other (by omega))).cell 1 rfl, ((hB.out.1.ext0 (hEd.trans t5)).ext (bb2.set3 _ _ _).2 (ob_other (by omega))).cell 2 rfl, ((hB.out.2.ext0 (hEd.trans t5)).ext (bb2.set3 _ _ _).2 (ob_other (by omega))).cell 0 rfl, ((hB.out.2.ext0 (hEd.trans t5)).ext (bb2.set3 _ _ _).2 (ob_other (by omega))).cell 1 rfl, ((hB.out.2.ext0 (hEd.trans t5)).ext (bb2.set3 _ _ _).2 (ob_other (by omega))).cell 2 rfl⟩ | go_keep)
          (first | (go_at_call 181; (with_reducible refine (imul (hidB X b 3) wc.drew _ _ _ _ hXd hxv hyv).mono ?_); rintro ee w5 ⟨t1, u5, rfl, hu5⟩; have hX5 := HX.ext hXd t1; have hx5 := mkx QC.mono hxd t1) | (go_at_call 145; (with_reducible refine (qden (hidB X b 3) w5 _ x hX5 hx5).mono ?_); rintro ee w6 ⟨hE6, u6, rfl, hu6⟩; have t2 := t1.trans hE6; have hX6 := HX.ext hXd t2; have hy6 := mkx QC.mono hyd t2) | (go_at_call 145; (with_reducible refine (qden (hidB X b 3) w6 _ y hX6 hy6).mono ?_); rintro ee w7 ⟨hE7, u7, rfl, hu7⟩; have t3 := t2.trans hE7; have hX7 := HX.ext hXd t3; have hm6 := (mkx NC.mono hu6 hE7).nv (Nat.le_trans bxd (by decide)); have hm7 := hu7.nv (Nat.le_trans byd (by decide))) | (go_at_call 146; (with_reducible refine (nmul hX7 hm6 hm7).mono ?_); rintro ee w8 ⟨hE8, u8, rfl, hu8⟩; have t4 := t3.trans hE8; have hX8 := HX.ext hXd t4; have hz5 := mkx ZC.mono hu5 (hE6.trans (hE7.trans hE8))) | (go_at_call 143; (with_reducible refine (qlowest (hidB X b 3) w8 _ _ _ _ hX8 hz5 hu8 (Nat.le_trans bnn (by decide)) (Nat.le_trans bdd (by decide)) bd0).mono ?_); rintro ee w13 ⟨hE13, u13, rfl, hu13⟩; obtain ⟨s13, a13, n13, c13, d13, k13, e13, rfl⟩ := hu13.shape; have t5 := t4.trans hE13; have bb2 := b2.ext0 (hEd.trans t5); have g0 := bb2.cell 0 rfl; have g1 := bb2.cell 1 rfl; have g2 := bb2.cell 2 rfl; have f0 := bb2.frozen 0; have f1 := bb2.frozen 1; have f2 := bb2.frozen 2))
        obtain ⟨r1, r2⟩ := bb2.set3 (.bool s13) (.slice a13 n13 c13) (.slice d13 k13 e13)
        have h7 := QC.mono _ _ _ _ le_unbox (QC.mono _ _ _ _ (le_store r2 (by omega) (by omega)) hu13)
        rw [hfin.out] at h7
        have hEf : Ext w _ := ExtX.box (hE1.trans (hEd.trans t5)) r2 (by omega)
        clear g0 g1 g2 f0 f1 f2 k00 k01 k02 k10 k11 k12 hS hB
        go_wp2_with fail
        exact bodyPost_ret (results_box rfl rfl stRat r1 rfl) rfl ⟨hEf, _, rfl, h7⟩
      · have hI : ((k4 : Int) == 0) = false := beqF (by omega)
        subst h3
        clear hk hl3 hl4 h4
        go_wp2_with fail
        go_region_held3 (fun w' => w'.cell? ⟨b, 0, none⟩ = some (.bool s3) /\ w'.cell? ⟨b, 1, none⟩ = some (.slice a3 n3 c3) /\ w'.cell? ⟨b, 2, none⟩ = some (.slice d3 0 e3) /\ w'.cell? ⟨b + 1, 0, none⟩ = some (.bool s4) /\ w'.cell? ⟨b + 1, 1, none⟩ = some (.slice a4 n4 c4) /\ w'.cell? ⟨b + 1, 2, none⟩ = some (.slice d4 k4 e4))
          (first | exact hS.out _ t1 | exact hS.out _ t2 | exact hS.out _ t3 | exact hS.out _ t4 | exact hS.out _ t5 | exact ⟨((hB.out.1.ext0 (hEd.trans t5)).ext (bb2.set3 _ _ _).2 (ob_other (by omega))).cell 0 rfl, ((hB.out.1.ext0 (hEd.trans t5)).ext (bb2.set3 _ _ _).2 (ob_other (by omega))).cell 1 rfl, ((hB.out.1.ext0 (hEd.trans t5)).ext (bb2.set3 _ _ _).2 (ob_other (by omega))).cell 2 rfl, ((hB.out.2.ext0 (hEd.trans t5)).ext (bb2.set3 _ _ _).2 (ob_other (by omega))).cell 0 rfl, ((hB.out.2.ext0 (hEd.trans t5)).ext (bb2.set3 _ _ _).2 (ob_other (by omega))).cell 1 rfl, ((hB.out.2.ext0 (hEd.trans t5)).ext (bb2.set3 _ _ _).2 (ob_other (by omega))).cell 2 rfl⟩ | go_keep)
          (first | (go_at_call 181; (with_reducible refine (imul (hidB X b 3) wc.drew _ _ _ _ hXd hxv hyv).mono ?_); rintro ee w5 ⟨t1, u5, rfl, hu5⟩; have hX5 := HX.ext hXd t1; have hx5 := mkx QC.mono hxd t1) | (go_at_call 145; (with_reducible refine (qden (hidB X b 3) w5 _ x hX5 hx5).mono ?_); rintro ee w6 ⟨hE6, u6, rfl, hu6⟩; have t2 := t1.trans hE6; have hX6 := HX.ext hXd t2; have hy6 := mkx QC.mono hyd t2) | (go_at_call 145; (with_reducible refine (qden (hidB X b 3) w6 _ y hX6 hy6).mono ?_); rintro ee w7 ⟨hE7, u7, rfl, hu7⟩; have t3 := t2.trans hE7; have hX7 := HX.ext hXd t3; have hm6 := (mkx NC.mono hu6 hE7).nv (Nat.le_trans bxd (by decide)); have hm7 := hu7.nv (Nat.le_trans byd (by decide))) | (go_at_call 146; (with_reducible refine (nmul hX7 hm6 hm7).mono ?_); rintro ee w8 ⟨hE8, u8, rfl, hu8⟩; have t4 := t3.trans hE8; have hX8 := HX.ext hXd t4; have hz5 := mkx ZC.mono hu5 (hE6.trans (hE7.trans hE8))) | (go_at_call 143; (with_reducible refine (qlowest (hidB X b 3) w8 _ _ _ _ hX8 hz5 hu8 (Nat.le_trans bnn (by decide)) (Nat.le_trans bdd (by decide)) bd0).mono ?_); rintro ee w13 ⟨hE13, u13, rfl, hu13⟩; obtain ⟨s13, a13, n13, c13, d13, k13, e13, rfl⟩ := hu13.shape; have t5 := t4.trans hE13; have bb2 := b2.ext0 (hEd.trans t5); have g0 := bb2.cell 0 rfl; have g1 := bb2.cell 1 rfl; have g2 := bb2.cell 2 rfl; have f0 := bb2.frozen 0; have f1 := bb2.frozen 1; have f2 := bb2.frozen 2))
        obtain ⟨r1, r2⟩ := bb2.set3 (.bool s13) (.slice a13 n13 c13) (.slice d13 k13 e13)
        have h7 := QC.mono _ _ _ _ le_unbox (QC.mono _ _ _ _ (le_store r2 (by omega) (by omega)) hu13)
        rw [hfin.out] at h7
        have hEf : Ext w _ := ExtX.box (hE1.trans (hEd.trans t5)) r2 (by omega)
        clear g0 g1 g2 f0 f1 f2 k00 k01 k02 k10 k11 k12 hS hB
        go_wp2_with fail
        exact bodyPost_ret (results_box rfl rfl stRat r1 rfl) rfl ⟨hEf, _, rfl, h7⟩
end Go.Proofs.YtgimdkjgaemcbaaGreat
namespace Go.Proofs.YtgimdkjgaemcbaaGreat
open Go.RowKit Go.Rep Go.Lim
theorem run_fieldNum (s : Bool) (a d : Option Addr) (n c k e : Nat) (W : World) : (Instr.field 38 (.agg #[.bool s, .slice a n c, .slice d k e]) 0).run Tryz.prog W = .ok (.agg #[.bool s, .slice a n c]) W := by kernel_rfl
def cmpQ (x y : Rat) : Int := if x < y then -1 else if y < x then 1 else 0
theorem cmpQ_eq (x y : Rat) : cmpZ (x.num * (y.den : Int)) (y.num * (x.den : Int)) = cmpQ x y := by
  unfold cmpZ cmpQ
  simp only [Rat.lt_iff]
set_option maxRecDepth 100000 in
set_option maxHeartbeats 1600000 in
theorem qcompare (X : Nat -> Bool) (w : World) (u v : Value) (x y : Rat) (hX : HX X w) (hu : QV (mk X w) u x) (hv : QV (mk X w) v y) : Calls Tryz.prog 137 #[u, v] w (IntOut w (cmpQ x y)) := by
  have hlx := hid hu.hq
  have hly := hid hv.hq
  obtain ⟨s1, a1, n1, c1, d1, k1, e1, rfl⟩ := hu.shape
  obtain ⟨s2, a2, n2, c2, d2, k2, e2, rfl⟩ := hv.shape
  obtain ⟨W, hW, hE, b0, b1, hz⟩ := boxes2 w #[.bool s1, .slice a1 n1 c1, .slice d1 k1 e1] #[.bool s2, .slice a2 n2 c2, .slice d2 k2 e2] 38 38
  have hXW : HX (hidB X w.heap.size 2) W := hX.boxes hz
  have hu1 := QV.mono _ _ _ _ (le_boxes (nb := 2) hE) hu
  have hv1 := QV.mono _ _ _ _ (le_boxes (nb := 2) hE) hv
  obtain ⟨b, hb⟩ : ∃ b, w.heap.size = b := ⟨_, rfl⟩
  have hbw : w.heap.size <= b := by omega
  rw [hb] at b0 b1 hz hXW hu1 hv1
  have hEd : Ext W W.drew := (ExtX.refl W).drew
  have hXd : HX (hidB X b 2) W.drew := hXW
  have hud : QV (mk (hidB X b 2) W.drew) (.agg #[.bool s1, .slice a1 n1 c1, .slice d1 k1 e1]) x := hu1
  have hvd : QV (mk (hidB X b 2) W.drew) (.agg #[.bool s2, .slice a2 n2 c2, .slice d2 k2 e2]) y := hv1
  have k00 := b0.cell 0 rfl
  have k01 := b0.cell 1 rfl
  have k02 := b0.cell 2 rfl
  have k10 := b1.cell 0 rfl
  have k11 := b1.cell 1 rfl
  have k12 := b1.cell 2 rfl
  clear hu hv
  go_enter Tryz.func137, Tryz.ntmps137
  go_upto_region 1 with (fail)
  go_cut [] from 5 to 8 (fun wx => ∃ s3 a3 n3 c3 d3 k3 e3 s4 a4 n4 c4 d4 k4 e4, Bx wx b #[.bool s3, .slice a3 n3 c3, .slice d3 k3 e3] 38 /\ Bx wx (b + 1) #[.bool s4, .slice a4 n4 c4, .slice d4 k4 e4] 38 /\ QC (mk (hidB X b 2) wx) (.agg #[.bool s3, .slice a3 n3 c3, .slice d3 k3 e3]) x /\ QC (mk (hidB X b 2) wx) (.agg #[.bool s4, .slice a4 n4 c4, .slice d4 k4 e4]) y /\ Ext w wx)
  case first =>
    go_region_with (first | (go_at_call 141; (with_reducible refine (qvalue (hidB X b 2) W.drew _ x hXd hud).mono ?_); rintro ee w5 ⟨hE5, u5, rfl, hq5⟩; obtain ⟨s5, a5, n5, c5, d5, k5, e5, rfl⟩ := hq5.shape; have bb0 := b0.ext0 (hEd.trans hE5); have bb1 := b1.ext0 (hEd.trans hE5); have e00 := bb0.cell 0 rfl; have e01 := bb0.cell 1 rfl; have e02 := bb0.cell 2 rfl; have e10 := bb1.cell 0 rfl; have e11 := bb1.cell 1 rfl; have e12 := bb1.cell 2 rfl) | (go_at_call 141; (with_reducible refine (qvalue (hidB X b 2) w5 _ y (HX.ext hXd hE5) (mkx QV.mono hvd hE5)).mono ?_); rintro ee w6 ⟨hE6, u6, rfl, hq6⟩; obtain ⟨s6, a6, n6, c6, d6, k6, e6, rfl⟩ := hq6.shape; have bb2 := bb0.ext0 hE6; have bb3 := bb1.ext0 hE6; have g00 := bb2.cell 0 rfl; have g01 := bb2.cell 1 rfl; have g02 := bb2.cell 2 rfl; have g10 := bb3.cell 0 rfl; have g11 := bb3.cell 1 rfl; have g12 := bb3.cell 2 rfl; have fr0 := bb2.frozen 0; have fr1 := bb2.frozen 1; have fr4 := bb2.frozen 2; have fr2 := bb3.frozen 0; have fr3 := bb3.frozen 1; have fr5 := bb3.frozen 2))
    all_goals
      obtain ⟨wf, hwf, q0, q1, q2, q3, q4⟩ := two_stores3 (X := X) (nb := 2) bb2 bb3 (hE.trans ((hEd.trans hE5).trans hE6)) hbw (by omega) (.bool s5) (.slice a5 n5 c5) (.slice d5 k5 e5) (.bool s6) (.slice a6 n6 c6) (.slice d6 k6 e6)
      rw [hwf]
      have hfx : QC (mk (hidB X b 2) wf) (.agg #[.bool s5, .slice a5 n5 c5, .slice d5 k5 e5]) x := QC.mono _ _ _ _ q4 (mkx QC.mono hq5 hE6)
      have hfy : QC (mk (hidB X b 2) wf) (.agg #[.bool s6, .slice a6 n6 c6, .slice d6 k6 e6]) y := QC.mono _ _ _ _ q4 hq6
      clear e00 e01 e02 e10 e11 e12 g00 g01 g02 g10 g11 g12 fr0 fr1 fr2 fr3 fr4 fr5 k00 k01 k02 k10 k11 k12 hwf
      go_wp2_with fail
      go_meet
      exact ⟨_, _, _, _, _, _, _, _, _, _, _, _, _, _, q0, q1, hfx, hfy, q3⟩
  case rest =>
    clear k00 k01 k02 k10 k11 k12 b0 b1 hu1 hv1 hud hvd hXd hEd hW
    obtain ⟨s3, a3, n3, c3, d3, k3, e3, s4, a4, n4, c4, d4, k4, e4, b0, b1, hx, hy, hE1⟩ := hcut
    have hzz : w.heap.size + 2 <= wc.heap.size := by have := b1.lt; omega
    obtain ⟨hxz, hxm, hxdn⟩ := hx.num
    obtain ⟨hyz, hym, hydn⟩ := hy.num
    have hXc : HX (hidB X b 2) wc := hX.boxes' hE1 (by have := hzz; omega) hzz
    have k00 := b0.cell 0 rfl
    have k01 := b0.cell 1 rfl
    have k02 := b0.cell 2 rfl
    have k10 := b1.cell 0 rfl
    have k11 := b1.cell 1 rfl
    have k12 := b1.cell 2 rfl
    have hEd : Ext wc wc.drew := (ExtX.refl wc).drew
    have hXd : HX (hidB X b 2) wc.drew := hXc
    have hxd : QC (mk (hidB X b 2) wc.drew) (.agg #[.bool s3, .slice a3 n3 c3, .slice d3 k3 e3]) x := hx
    have hyd : QC (mk (hidB X b 2) wc.drew) (.agg #[.bool s4, .slice a4 n4 c4, .slice d4 k4 e4]) y := hy
    have hxzd : ZC (mk (hidB X b 2) wc.drew) (.agg #[.bool s3, .slice a3 n3 c3]) x.num := hxz
    have hyzd : ZC (mk (hidB X b 2) wc.drew) (.agg #[.bool s4, .slice a4 n4 c4]) y.num := hyz
    have bxn : lg x.num.natAbs <= 549755813888 := Nat.le_trans (Nat.le_trans (hq_num x) hlx.out) (by omega)
    have byn : lg y.num.natAbs <= 549755813888 := Nat.le_trans (Nat.le_trans (hq_num y) hly.out) (by omega)
    have bxd : lg x.den <= 549755813888 := Nat.le_trans (Nat.le_trans (hq_den x) hlx.out) (by omega)
    have byd : lg y.den <= 549755813888 := Nat.le_trans (Nat.le_trans (hq_den y) hly.out) (by omega)
    have bp1 : lg (x.num * (y.den : Int)).natAbs <= 274877906944 := by rw [Int.natAbs_mul, Int.natAbs_natCast]; have := lg_mul x.num.natAbs y.den; have := hq_num x; have := hq_den y; have := hlx.out; have := hly.out; omega
    have bp2 : lg (y.num * (x.den : Int)).natAbs <= 274877906944 := by rw [Int.natAbs_mul, Int.natAbs_natCast]; have := lg_mul y.num.natAbs x.den; have := hq_num y; have := hq_den x; have := hlx.out; have := hly.out; omega
    have bdd : lg (x.den * y.den) <= 274877906944 := by have := lg_mul x.den y.den; have := hq_den x; have := hq_den y; have := hlx.out; have := hly.out; omega
    have bnn : lg (x.num * y.num).natAbs <= 274877906944 := by rw [Int.natAbs_mul]; have := lg_mul x.num.natAbs y.num.natAbs; have := hq_num x; have := hq_num y; have := hlx.out; have := hly.out; omega
    have bd0 : 0 < x.den * y.den := Nat.mul_pos x.den_pos y.den_pos
    have hB := hid (And.intro b0 b1)
    have hS : Hid (∀ W', Ext wc.drew W' -> W'.cell? ⟨b, 0, none⟩ = some (.bool s3) /\ W'.cell? ⟨b, 1, none⟩ = some (.slice a3 n3 c3) /\ W'.cell? ⟨b, 2, none⟩ = some (.slice d3 k3 e3) /\ W'.cell? ⟨b + 1, 0, none⟩ = some (.bool s4) /\ W'.cell? ⟨b + 1, 1, none⟩ = some (.slice a4 n4 c4) /\ W'.cell? ⟨b + 1, 2, none⟩ = some (.slice d4 k4 e4)) :=
      hid fun W' h => ⟨(b0.ext0 (hEd.trans h)).cell 0 rfl, (b0.ext0 (hEd.trans h)).cell 1 rfl, (b0.ext0 (hEd.trans h)).cell 2 rfl, (b1.ext0 (hEd.trans h)).cell 0 rfl, (b1.ext0 (hEd.trans h)).cell 1 rfl, (b1.ext0 (hEd.trans h)).cell 2 rfl⟩
    have hfin : Hid (cmpZ (x.num * (y.den : Int)) (y.num * (x.den : Int)) = cmpQ x y) := hid (cmpQ_eq x y)
    go_wp2_with fail
    go_region_held3 (fun w' => w'.cell? ⟨b, 0, none⟩ = some (.bool s3) /\ w'.cell? ⟨b, 1, none⟩ = some (.slice a3 n3 c3) /\ w'.cell? ⟨b, 2, none⟩ = some (.slice d3 k3 e3) /\ w'.cell? ⟨b + 1, 0, none⟩ = some (.bool s4) /\ w'.cell? ⟨b + 1, 1, none⟩ = some (.slice a4 n4 c4) /\ w'.cell? ⟨b + 1, 2, none⟩ = some (.slice d4 k4 e4))
      (first | exact hS.out _ t1 | exact hS.out _ t2 | exact hS.out _ t3 | exact hS.out _ t4 | exact hS.out _ t5 | go_keep)
      (first | (go_at_call 145; (with_reducible refine (qden (hidB X b 2) wc.drew _ y hXd hyd).mono ?_); rintro ee w5 ⟨t1, u5, rfl, hu5⟩; have hX5 := HX.ext hXd t1; have hx5 := mkx ZC.mono hxzd t1) | (go_at_call 144; (with_reducible refine (qtimes (hidB X b 2) w5 _ _ x.num y.den hX5 hx5 hu5 bxn byd).mono ?_); rintro ee w6 ⟨hE6, u6, rfl, hu6⟩; have t2 := t1.trans hE6; have hX6 := HX.ext hXd t2; have hx6 := mkx QC.mono hxd t2) | (go_at_call 145; (with_reducible refine (qden (hidB X b 2) w6 _ x hX6 hx6).mono ?_); rintro ee w7 ⟨hE7, u7, rfl, hu7⟩; have t3 := t2.trans hE7; have hX7 := HX.ext hXd t3; have hy7 := mkx ZC.mono hyzd t3) | (go_at_call 144; (with_reducible refine (qtimes (hidB X b 2) w7 _ _ y.num x.den hX7 hy7 hu7 byn bxd).mono ?_); rintro ee w8 ⟨hE8, u8, rfl, hu8⟩; have t4 := t3.trans hE8; have hX8 := HX.ext hXd t4; have hz6 := (mkx ZC.mono hu6 (hE7.trans hE8)).zv (Nat.le_trans bp1 (by decide)); have hz8 := hu8.zv (Nat.le_trans bp2 (by decide))) | (go_at_call 191; (with_reducible refine (icompare (hidB X b 2) w8 _ _ _ _ hX8 hz6 hz8).mono ?_); rintro ee w9 ⟨hE9, rfl⟩; have t5 := t4.trans hE9))
    have hEf : Ext w _ := hE1.trans (hEd.trans t5)
    clear k00 k01 k02 k10 k11 k12 hS hB
    go_wp2_with fail
    go_ret
    exact ⟨hEf, ret_int hfin.out⟩
end Go.Proofs.YtgimdkjgaemcbaaGreat
namespace Go.Proofs.YtgimdkjgaemcbaaGreat
open Go.RowKit Go.Rep Go.Lim
theorem dn_neg (x : Rat) : dn (-x) = dn x := by unfold dn; rw [Rat.neg_den]
set_option maxRecDepth 100000 in
theorem qneg (X : Nat -> Bool) (w : World) (u : Value) (x : Rat) (hX : HX X w) (hu : QV (mk X w) u x) : Calls Tryz.prog 140 #[u] w (ROut X w QC (-x)) := by
  have hlx := hid hu.hq
  obtain ⟨s1, a1, n1, c1, d1, k1, e1, rfl⟩ := hu.shape
  obtain ⟨W, hW, hE, b0, b1, hz⟩ := boxes2 w #[.bool s1, .slice a1 n1 c1, .slice d1 k1 e1] #[.bool false, .slice none 0 0, .slice none 0 0] 38 38
  have hXW : HX (hidB X w.heap.size 2) W := hX.boxes hz
  have hu1 := QV.mono _ _ _ _ (le_boxes (nb := 2) hE) hu
  obtain ⟨b, hb⟩ : ∃ b, w.heap.size = b := ⟨_, rfl⟩
  have hbw : w.heap.size <= b := by omega
  rw [hb] at b0 b1 hz hXW hu1
  have k00 := b0.cell 0 rfl
  have k01 := b0.cell 1 rfl
  have k02 := b0.cell 2 rfl
  clear hu
  go_enter Tryz.func140, Tryz.ntmps140
  go_wp2_with fail
  refine (qvalue (hidB X b 2) W _ x hXW hu1).mono ?_
  rintro e w5 ⟨hE5, u5, rfl, hq5⟩
  obtain ⟨s5, a5, n5, c5, d5, k5, e5, rfl⟩ := hq5.shape
  have hX5 := hXW.ext hE5
  have bb0 := b0.ext0 hE5
  have bb1 := b1.ext0 hE5
  clear k00 k01 k02
  go_upto_region 2 with ((with_reducible show wpList _ _ _ (⟨_, .store _ _ _, _, _, _, _⟩ :: _) _ _); refine st_storeBox stRat rfl rfl bb0 rfl rfl (one3 _ _ _ _ _ _ _) ?_; intro w7 r1 r2; have k00 := r1.cell 0 rfl; have k01 := r1.cell 1 rfl; have k02 := r1.cell 2 rfl)
  have hX7 := hX5.ext r2
  have bb3 := bb1.ext r2 (ob_other (by omega))
  have hx7 := QC.mono _ _ _ _ (le_store (X := X) (lo := b) (nb := 2) r2 (by omega) (by omega)) hq5
  have hE7 : Ext w w7 := ExtX.box (hE.trans hE5) r2 (by omega)
  obtain ⟨hxz, hxm, hxdn⟩ := hx7.num
  have hEd : Ext w7 w7.drew := (ExtX.refl w7).drew
  have hXd : HX (hidB X b 2) w7.drew := hX7
  have hxzd : ZC (mk (hidB X b 2) w7.drew) (.agg #[.bool s5, .slice a5 n5 c5]) x.num := hxz
  have hxdd : NC (mk (hidB X b 2) w7.drew) (.slice d5 k5 e5) (dn x) := hxdn
  have bxn : lg x.num.natAbs <= 549755813888 := Nat.le_trans (Nat.le_trans (hq_num x) hlx.out) (by omega)
  have bxd : lg (dn x) <= 549755813888 := Nat.le_trans (Nat.le_trans (dn_le x) hlx.out) (by omega)
  have hxv := hxzd.zv bxn
  have hS : Hid (∀ W', Ext w7.drew W' -> W'.cell? ⟨b, 0, none⟩ = some (.bool s5) /\ W'.cell? ⟨b, 1, none⟩ = some (.slice a5 n5 c5) /\ W'.cell? ⟨b, 2, none⟩ = some (.slice d5 k5 e5)) :=
    hid fun W' h => ⟨(r1.ext0 (hEd.trans h)).cell 0 rfl, (r1.ext0 (hEd.trans h)).cell 1 rfl, (r1.ext0 (hEd.trans h)).cell 2 rfl⟩
  go_region_held3 (fun w' => w'.cell? ⟨b, 0, none⟩ = some (.bool s5) /\ w'.cell? ⟨b, 1, none⟩ = some (.slice a5 n5 c5) /\ w'.cell? ⟨b, 2, none⟩ = some (.slice d5 k5 e5))
    (first | exact hS.out _ t1 | exact hS.out _ t2 | exact ⟨((r1.ext0 (hEd.trans t2)).ext (bb2.set3 _ _ _).2 (ob_other (by omega))).cell 0 rfl, ((r1.ext0 (hEd.trans t2)).ext (bb2.set3 _ _ _).2 (ob_other (by omega))).cell 1 rfl, ((r1.ext0 (hEd.trans t2)).ext (bb2.set3 _ _ _).2 (ob_other (by omega))).cell 2 rfl⟩ | go_keep)
    (first | (go_at_call 194; (with_reducible refine (ineg (hidB X b 2) w7.drew _ _ hXd hxv).mono ?_); rintro ee w8 ⟨t1, u8, rfl, s8, a8, c8, l8, rfl, h81, h82, h83⟩; have hX8 := HX.ext hXd t1; have hm8 := (mkx NC.mono hxdd t1).nv (Nat.le_trans bxd (by decide)); have hz8 := NC.nv (NC.zero (mk (hidB X b 2) w8)) (by decide)) | (go_at_call 195; (with_reducible refine (nadd hX8 hm8 hz8).mono ?_); rintro ee w9 ⟨hE9, u9, rfl, a9, c9, l9, rfl, h91, h92, h93⟩; have t2 := t1.trans hE9; have hh8 := Sl.mono (NatIn.mono _) (mk_ext hE9) h83; have bb2 := bb3.ext0 (hEd.trans t2); have g0 := bb2.cell 0 rfl; have g1 := bb2.cell 1 rfl; have g2 := bb2.cell 2 rfl; have f0 := bb2.frozen 0; have f1 := bb2.frozen 1; have f2 := bb2.frozen 2))
  obtain ⟨q1, q2⟩ := bb2.set3 (.bool s8) (.slice a8 l8.length c8) (.slice a9 l9.length c9)
  have hz : ZC (mk (hidB X b 2) w9) (.agg #[.bool s8, .slice a8 l8.length c8]) (-x).num := ⟨s8, a8, c8, l8, rfl, h81, by rw [Rat.neg_num]; exact h82, hh8⟩
  have hd : NC (mk (hidB X b 2) w9) (.slice a9 l9.length c9) (dn (-x)) := ⟨a9, c9, l9, rfl, h91, by rw [dn_neg]; exact h92, h93⟩
  have h7 := QC.mono _ _ _ _ le_unbox (QC.mono _ _ _ _ (le_store q2 (by omega) (by omega)) (QC.of hz hd))
  have hEf : Ext w _ := ExtX.box (hE7.trans (hEd.trans t2)) q2 (by omega)
  clear g0 g1 g2 f0 f1 f2 k00 k01 k02 hS
  go_wp2_with fail
  exact bodyPost_ret (results_box rfl rfl stRat q1 rfl) rfl ⟨hEf, _, rfl, h7⟩
set_option maxRecDepth 100000 in
theorem qsub (X : Nat -> Bool) (w : World) (u v : Value) (x y : Rat) (hX : HX X w) (hu : QV (mk X w) u x) (hv : QV (mk X w) v y) : Calls Tryz.prog 75 #[u, v] w (ROut X w QC (x - y)) := by
  have hlx := hid hu.hq
  have hly := hid hv.hq
  obtain ⟨s1, a1, n1, c1, d1, k1, e1, rfl⟩ := hu.shape
  obtain ⟨s2, a2, n2, c2, d2, k2, e2, rfl⟩ := hv.shape
  obtain ⟨W, hW, hE, b0, b1, b2, hz⟩ := boxes3 w #[.bool s1, .slice a1 n1 c1, .slice d1 k1 e1] #[.bool s2, .slice a2 n2 c2, .slice d2 k2 e2] #[.bool false, .slice none 0 0, .slice none 0 0] 38 38 38
  have hXW : HX (hidB X w.heap.size 3) W := hX.boxes hz
  have hu1 := QV.mono _ _ _ _ (le_boxes (nb := 3) hE) hu
  have hv1 := QV.mono _ _ _ _ (le_boxes (nb := 3) hE) hv
  obtain ⟨b, hb⟩ : ∃ b, w.heap.size = b := ⟨_, rfl⟩
  have hbw : w.heap.size <= b := by omega
  rw [hb] at b0 b1 b2 hz hXW hu1 hv1
  have hEd : Ext W W.drew := (ExtX.refl W).drew
  have hXd : HX (hidB X b 3) W.drew := hXW
  have hud : QV (mk (hidB X b 3) W.drew) (.agg #[.bool s1, .slice a1 n1 c1, .slice d1 k1 e1]) x := hu1
  have hvd : QV (mk (hidB X b 3) W.drew) (.agg #[.bool s2, .slice a2 n2 c2, .slice d2 k2 e2]) y := hv1
  have k00 := b0.cell 0 rfl
  have k01 := b0.cell 1 rfl
  have k02 := b0.cell 2 rfl
  have k10 := b1.cell 0 rfl
  have k11 := b1.cell 1 rfl
  have k12 := b1.cell 2 rfl
  clear hu hv
  have hB := hid (And.intro b0 b1)
  have hS : Hid (∀ W', Ext W.drew W' -> W'.cell? ⟨b, 0, none⟩ = some (.bool s1) /\ W'.cell? ⟨b, 1, none⟩ = some (.slice a1 n1 c1) /\ W'.cell? ⟨b, 2, none⟩ = some (.slice d1 k1 e1) /\ W'.cell? ⟨b + 1, 0, none⟩ = some (.bool s2) /\ W'.cell? ⟨b + 1, 1, none⟩ = some (.slice a2 n2 c2) /\ W'.cell? ⟨b + 1, 2, none⟩ = some (.slice d2 k2 e2)) :=
    hid fun W' h => ⟨(b0.ext0 (hEd.trans h)).cell 0 rfl, (b0.ext0 (hEd.trans h)).cell 1 rfl, (b0.ext0 (hEd.trans h)).cell 2 rfl, (b1.ext0 (hEd.trans h)).cell 0 rfl, (b1.ext0 (hEd.trans h)).cell 1 rfl, (b1.ext0 (hEd.trans h)).cell 2 rfl⟩
  have hny := hid (show hq (-y) <= 68719476736 by rw [hq_neg]; exact hly.out)
  have hsum : Hid (x + -y = x - y) := hid (Rat.sub_eq_add_neg x y).symm
  go_enter Tryz.func75, Tryz.ntmps75
  go_upto_region 1 with (fail)
  go_region_held3 (fun w' => w'.cell? ⟨b, 0, none⟩ = some (.bool s1) /\ w'.cell? ⟨b, 1, none⟩ = some (.slice a1 n1 c1) /\ w'.cell? ⟨b, 2, none⟩ = some (.slice d1 k1 e1) /\ w'.cell? ⟨b + 1, 0, none⟩ = some (.bool s2) /\ w'.cell? ⟨b + 1, 1, none⟩ = some (.slice a2 n2 c2) /\ w'.cell? ⟨b + 1, 2, none⟩ = some (.slice d2 k2 e2))
    (first | exact hS.out _ t1 | exact hS.out _ t2 | exact ⟨((hB.out.1.ext0 (hEd.trans t2)).ext (bb2.set3 _ _ _).2 (ob_other (by omega))).cell 0 rfl, ((hB.out.1.ext0 (hEd.trans t2)).ext (bb2.set3 _ _ _).2 (ob_other (by omega))).cell 1 rfl, ((hB.out.1.ext0 (hEd.trans t2)).ext (bb2.set3 _ _ _).2 (ob_other (by omega))).cell 2 rfl, ((hB.out.2.ext0 (hEd.trans t2)).ext (bb2.set3 _ _ _).2 (ob_other (by omega))).cell 0 rfl, ((hB.out.2.ext0 (hEd.trans t2)).ext (bb2.set3 _ _ _).2 (ob_other (by omega))).cell 1 rfl, ((hB.out.2.ext0 (hEd.trans t2)).ext (bb2.set3 _ _ _).2 (ob_other (by omega))).cell 2 rfl⟩ | go_keep)
    (first | (go_at_call 140; (with_reducible refine (qneg (hidB X b 3) W.drew _ y hXd hvd).mono ?_); rintro ee w5 ⟨t1, u5, rfl, hu5⟩; have hX5 := HX.ext hXd t1; have hx5 := mkx QV.mono hud t1) | (go_at_call 76; (with_reducible refine (qadd (hidB X b 3) w5 _ _ x (-y) hX5 hx5 (hu5.qv hny.out)).mono ?_); rintro ee w6 ⟨hE6, u6, rfl, hu6⟩; obtain ⟨s6, a6, n6, c6, d6, k6, e6, rfl⟩ := hu6.shape; have t2 := t1.trans hE6; have bb2 := b2.ext0 (hEd.trans t2); have g0 := bb2.cell 0 rfl; have g1 := bb2.cell 1 rfl; have g2 := bb2.cell 2 rfl; have f0 := bb2.frozen 0; have f1 := bb2.frozen 1; have f2 := bb2.frozen 2))
  rw [hsum.out] at hu6
  obtain ⟨q1, q2⟩ := bb2.set3 (.bool s6) (.slice a6 n6 c6) (.slice d6 k6 e6)
  have h7 := QC.mono _ _ _ _ le_unbox (QC.mono _ _ _ _ (le_store q2 (by omega) (by omega)) hu6)
  have hEf : Ext w _ := ExtX.box (hE.trans (hEd.trans t2)) q2 (by omega)
  clear g0 g1 g2 f0 f1 f2 k00 k01 k02 k10 k11 k12 hS hB
  go_wp2_with fail
  exact bodyPost_ret (results_box rfl rfl stRat q1 rfl) rfl ⟨hEf, _, rfl, h7⟩
end Go.Proofs.YtgimdkjgaemcbaaGreat
