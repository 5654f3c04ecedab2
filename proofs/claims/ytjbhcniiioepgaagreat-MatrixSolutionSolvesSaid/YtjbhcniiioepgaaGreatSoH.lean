/- integer.Add, Mul, Neg, Sign, FromInt, Compare. Conditions: at most 2^39 digits. The reference's integers: Add. Conditions: at most 2^39 digits. integer.Mul, Neg, Sign, FromInt. Conditions: at most 2^39 digits. The reference's integers: Mul, Neg, Sign, FromInt. Conditions: at most 2^39 digits. -/
import Derived.Test.YtjbhcniiioepgaaGreatSoG
namespace Go.Proofs.YtjbhcniiioepgaaGreat
open Go.RowKit Go.Rep Go.Lim

set_option maxRecDepth 100000 in
set_option maxHeartbeats 800000 in
theorem iadd (X : Nat → Bool) (w : World) (u v : Value) (x y : Int) (hX : HX X w) (hu : ZV (mk X w) u x) (hv : ZV (mk X w) v y) : Calls Tryz.prog 163 #[u, v] w (ROut X w ZC (x + y)) := by
  have hlx := hid hu.lg
  have hly := hid hv.lg
  obtain ⟨s1, a1, c1, l1, rfl, hu'⟩ := id hu
  obtain ⟨s2, a2, c2, l2, rfl, hv'⟩ := id hv
  obtain ⟨W, hW, hE, b0, b1, b2, hz⟩ := boxes3 w #[.bool s1, .slice a1 l1.length c1] #[.bool s2, .slice a2 l2.length c2] #[.bool false, .slice none 0 0] 29 29 29
  have hXW : HX (hidB X w.heap.size 3) W := hX.boxes hz
  have hu1 := ZV.mono _ _ _ _ (le_boxes (nb := 3) hE) hu
  have hv1 := ZV.mono _ _ _ _ (le_boxes (nb := 3) hE) hv
  obtain ⟨b, hb⟩ : ∃ b, w.heap.size = b := ⟨_, rfl⟩
  have hbw : w.heap.size ≤ b := by omega
  rw [hb] at b0 b1 b2 hz hXW hu1 hv1
  have hEd : Ext W W.drew := (ExtX.refl W).drew
  have hXd : HX (hidB X b 3) W.drew := hXW
  have hud : ZV (mk (hidB X b 3) W.drew) (.agg #[.bool s1, .slice a1 l1.length c1]) x := hu1
  have hvd : ZV (mk (hidB X b 3) W.drew) (.agg #[.bool s2, .slice a2 l2.length c2]) y := hv1
  have k00 := b0.cell 0 rfl
  have k01 := b0.cell 1 rfl
  have k10 := b1.cell 0 rfl
  have k11 := b1.cell 1 rfl
  clear hu hv hu' hv'
  go_enter Tryz.func163, Tryz.ntmps163
  go_upto_region 1 with (fail)
  go_cut [] from 9 to 12 (fun wx => ∃ s3 a3 c3 l3 s4 a4 c4 l4, Bx wx b #[.bool s3, .slice a3 l3 c3] 29 ∧ Bx wx (b + 1) #[.bool s4, .slice a4 l4 c4] 29 ∧ Bx wx (b + 1 + 1) #[.bool false, .slice none 0 0] 29 ∧ ZC (mk (hidB X b 3) wx) (.agg #[.bool s3, .slice a3 l3 c3]) x ∧ ZC (mk (hidB X b 3) wx) (.agg #[.bool s4, .slice a4 l4 c4]) y ∧ Ext w wx)
  case first =>
    go_region_with (first | (go_at_call 195; (with_reducible refine (ivalue (hidB X b 3) W.drew _ x hXd hud).mono ?_); rintro e w5 ⟨hE5, u5, rfl, s5, a5, c5, l5, rfl, h51, h52, h53⟩; have bb0 := b0.ext0 (hEd.trans hE5); have bb1 := b1.ext0 (hEd.trans hE5); have e00 := bb0.cell 0 rfl; have e01 := bb0.cell 1 rfl; have e10 := bb1.cell 0 rfl; have e11 := bb1.cell 1 rfl) | (go_at_call 195; (with_reducible refine (ivalue (hidB X b 3) w5 _ y (HX.ext hXd hE5) (mkx ZV.mono hvd hE5)).mono ?_); rintro e w6 ⟨hE6, u6, rfl, s6, a6, c6, l6, rfl, h61, h62, h63⟩; have bb2 := bb0.ext0 hE6; have bb3 := bb1.ext0 hE6; have g00 := bb2.cell 0 rfl; have g01 := bb2.cell 1 rfl; have g10 := bb3.cell 0 rfl; have g11 := bb3.cell 1 rfl; have fr0 := bb2.frozen 0; have fr1 := bb2.frozen 1; have fr2 := bb3.frozen 0; have fr3 := bb3.frozen 1))
    all_goals
      obtain ⟨wf, hwf, q0, q1, q2, q3, q4⟩ := two_stores (X := X) (nb := 3) bb2 bb3 (hE.trans ((hEd.trans hE5).trans hE6)) hbw (by omega) (.bool s5) (.slice a5 l5.length c5) (.bool s6) (.slice a6 l6.length c6)
      rw [hwf]
      have hfx : ZC (mk (hidB X b 3) wf) (.agg #[.bool s5, .slice a5 l5.length c5]) x := ⟨s5, a5, c5, l5, rfl, h51, h52, (h53.mono (NatIn.mono _) (mk_ext hE6)).mono (NatIn.mono _) q4⟩
      have hfy : ZC (mk (hidB X b 3) wf) (.agg #[.bool s6, .slice a6 l6.length c6]) y := ⟨s6, a6, c6, l6, rfl, h61, h62, h63.mono (NatIn.mono _) q4⟩
      have q5 := q2 (b + 1 + 1) _ _ (by omega) (by omega) ((b2.ext0 (hEd.trans hE5)).ext0 hE6)
      clear e00 e01 e10 e11 g00 g01 g10 g11 fr0 fr1 fr2 fr3 k00 k01 k10 k11 hwf
      go_wp2_with fail
      go_meet
      exact ⟨_, _, _, _, _, _, _, _, q0, q1, q5, hfx, hfy, q3⟩
  case rest =>
    clear k00 k01 k10 k11 b0 b1 b2 hu1 hv1 hud hvd hXd hEd hW
    obtain ⟨s3, a3, c3, n3, s4, a4, c4, n4, b0, b1, b2, hx, hy, hE1⟩ := hcut
    obtain ⟨_, _, _, l3, heq, h31, h32, h33⟩ := hx
    simp only [Value.agg.injEq, Array.mk.injEq, List.cons.injEq, Value.bool.injEq, Value.slice.injEq, and_true] at heq
    obtain ⟨rfl, rfl, rfl, rfl⟩ := heq
    obtain ⟨_, _, _, l4, heq, h41, h42, h43⟩ := hy
    simp only [Value.agg.injEq, Array.mk.injEq, List.cons.injEq, Value.bool.injEq, Value.slice.injEq, and_true] at heq
    obtain ⟨rfl, rfl, rfl, rfl⟩ := heq
    have hnx : NV (mk (hidB X b 3) wc) (.slice a3 l3.length c3) x.natAbs := NC.nv ⟨a3, c3, l3, rfl, h31, h32.2, h33⟩ (by have := hlx.out; omega)
    have hny : NV (mk (hidB X b 3) wc) (.slice a4 l4.length c4) y.natAbs := NC.nv ⟨a4, c4, l4, rfl, h41, h42.2, h43⟩ (by have := hly.out; omega)
    have hsx := hid h32.1
    have hsy := hid h42.1
    have hzz : w.heap.size + 3 ≤ wc.heap.size := by have := b2.lt; omega
    have hXc : HX (hidB X b 3) wc := hX.boxes' hE1 (by omega) hzz
    have hB := hid (And.intro b0 (And.intro b1 b2))
    have k00 := b0.cell 0 rfl
    have k01 := b0.cell 1 rfl
    have k10 := b1.cell 0 rfl
    have k11 := b1.cell 1 rfl
    have hlz := hid (sg_of h32)
    have hlw := hid (sg_of h42)
    have hEd : Ext wc wc.drew := (ExtX.refl wc).drew
    have hn1 : b + 1 ≠ b + 1 + 1 := by omega
    have hn2 : b ≠ b + 1 + 1 := by omega
    by_cases hss : s3 = s4
    · subst hss
      have hfin : Hid (sg s3 (x.natAbs + y.natAbs) = x + y) := hid (by
        have e1 := hlz.out; have e2 := hlw.out
        unfold sg at *
        cases s3 <;> simp at * <;> omega)
      go_wp2_with fail
      go_region_held3 (fun w' => w'.cell? ⟨b, 0, none⟩ = some (.bool s3) ∧ w'.cell? ⟨b, 1, none⟩ = some (.slice a3 l3.length c3) ∧ w'.cell? ⟨b + 1, 1, none⟩ = some (.slice a4 l4.length c4))
        (first | exact ⟨(hB.out.1.ext0 (hEd.trans hE5)).cell 0 rfl, (hB.out.1.ext0 (hEd.trans hE5)).cell 1 rfl, (hB.out.2.1.ext0 (hEd.trans hE5)).cell 1 rfl⟩ | exact ⟨(hB.out.1.ext0 (hEd.trans (hE5.trans hE6))).cell 0 rfl, (hB.out.1.ext0 (hEd.trans (hE5.trans hE6))).cell 1 rfl, (hB.out.2.1.ext0 (hEd.trans (hE5.trans hE6))).cell 1 rfl⟩ | exact ⟨((hB.out.1.ext0 (hEd.trans (hE5.trans hE6))).ext (bb2.set2 _ _).2 (ob_other (by omega))).cell 0 rfl, ((hB.out.1.ext0 (hEd.trans (hE5.trans hE6))).ext (bb2.set2 _ _).2 (ob_other (by omega))).cell 1 rfl, ((hB.out.2.1.ext0 (hEd.trans (hE5.trans hE6))).ext (bb2.set2 _ _).2 (ob_other (by omega))).cell 1 rfl⟩ | go_keep)
        (first | (go_at_call 143; refine (nadd (X := hidB X b 3) (w := wc.drew) hXc hnx hny).mono ?_; rintro e w5 ⟨hE5, u5, rfl, hu5⟩) | (go_at_call 201; refine (isigned (hidB X b 3) w5 s3 u5 (x.natAbs + y.natAbs) (HX.ext (w := wc.drew) hXc hE5) hu5).mono ?_; rintro e w6 ⟨hE6, u6, rfl, s6, a6, c6, l6, rfl, h61, h62, h63⟩; have bb2 := hB.out.2.2.ext0 (hEd.trans (hE5.trans hE6)); have g1 := bb2.cell 0 rfl; have g2 := bb2.cell 1 rfl; have g3 := bb2.frozen 0; have g4 := bb2.frozen 1))
      obtain ⟨r1, r2⟩ := bb2.set2 (.bool s6) (.slice a6 l6.length c6)
      have h7 := (h63.mono (NatIn.mono _) (le_store r2 (by omega) (by omega))).mono (NatIn.mono _) le_unbox
      rw [hfin.out] at h62
      have hEf : Ext w _ := ExtX.box (hE1.trans (hEd.trans (hE5.trans hE6))) r2 (by omega)
      clear g1 g2 g3 g4 k00 k01 k10 k11
      go_wp2_with fail
      exact bodyPost_ret (results_box rfl rfl stInt r1 rfl) rfl ⟨hEf, _, rfl, s6, a6, c6, l6, rfl, h61, h62, h7⟩
    · have hne : (s3 == s4) = false := by simpa using hss
      have hfin1 : Hid (y.natAbs ≤ x.natAbs → sg s3 (x.natAbs - y.natAbs) = x + y) := hid (fun h => by
        have e1 := hlz.out; have e2 := hlw.out
        unfold sg at *
        cases s3 <;> cases s4 <;> simp at * <;> omega)
      have hfin2 : Hid (¬ y.natAbs ≤ x.natAbs → sg s4 (y.natAbs - x.natAbs) = x + y) := hid (fun h => by
        have e1 := hlz.out; have e2 := hlw.out
        unfold sg at *
        cases s3 <;> cases s4 <;> simp at * <;> omega)
      clear hss
      go_wp2_with fail
      refine (nsub hXc hnx hny).mono ?_
      rintro e w5 ⟨hE5, u5, rfl, hu5⟩
      have hX5 := hXc.ext hE5
      have bb0 := hB.out.1.ext0 hE5
      have bb1 := hB.out.2.1.ext0 hE5
      have bb2 := hB.out.2.2.ext0 hE5
      clear k00 k01 k10 k11
      have k00 := bb0.cell 0 rfl
      have k01 := bb0.cell 1 rfl
      have k10 := bb1.cell 0 rfl
      have k11 := bb1.cell 1 rfl
      by_cases hle : y.natAbs ≤ x.natAbs
      · have hd : decide (y.natAbs ≤ x.natAbs) = true := decide_eq_true hle
        have hf := hid (hfin1.out hle)
        rw [hd]
        clear hd hle
        go_wp2_with fail
        refine (isigned (hidB X b 3) w5 s3 u5 _ hX5 hu5).mono ?_
        rintro e w6 ⟨hE6, u6, rfl, s6, a6, c6, l6, rfl, h61, h62, h63⟩
        have bb3 := bb2.ext0 hE6
        clear k00 k01 k10 k11
        go_wp2_with ((with_reducible show wpList _ _ _ (⟨_, .store _ _ _, _, _, _, _⟩ :: _) _ _); refine st_storeBox stInt rfl rfl bb3 rfl rfl (one2 _ _ _ _) ?_; intro w7 r1 r2)
        have h7 := (h63.mono (NatIn.mono _) (le_store r2 (by omega) (by omega))).mono (NatIn.mono _) le_unbox
        rw [hf.out] at h62
        exact bodyPost_ret (results_box rfl rfl stInt r1 rfl) rfl ⟨ExtX.box (hE1.trans (hE5.trans hE6)) r2 (by omega), _, rfl, s6, a6, c6, l6, rfl, h61, h62, h7⟩
      · have hd : decide (y.natAbs ≤ x.natAbs) = false := decide_eq_false hle
        have hf := hid (hfin2.out hle)
        rw [hd]
        clear hd hle
        go_wp2_with fail
        refine (nsub hX5 (mkx NV.mono hny hE5) (mkx NV.mono hnx hE5)).mono ?_
        rintro e w6 ⟨hE6, v5, rfl, hv5⟩
        have bc0 := bb0.ext0 hE6
        have bc1 := bb1.ext0 hE6
        have bc2 := bb2.ext0 hE6
        clear k00 k01 k10 k11
        have k10 := bc1.cell 0 rfl
        have k11 := bc1.cell 1 rfl
        go_wp2_with fail
        refine (isigned (hidB X b 3) w6 s4 v5 _ (hX5.ext hE6) hv5).mono ?_
        rintro e w7 ⟨hE7, u6, rfl, s6, a6, c6, l6, rfl, h61, h62, h63⟩
        have bb3 := bc2.ext0 hE7
        clear k10 k11
        go_wp2_with ((with_reducible show wpList _ _ _ (⟨_, .store _ _ _, _, _, _, _⟩ :: _) _ _); refine st_storeBox stInt rfl rfl bb3 rfl rfl (one2 _ _ _ _) ?_; intro w8 r1 r2)
        have h7 := (h63.mono (NatIn.mono _) (le_store r2 (by omega) (by omega))).mono (NatIn.mono _) le_unbox
        rw [hf.out] at h62
        exact bodyPost_ret (results_box rfl rfl stInt r1 rfl) rfl ⟨ExtX.box (hE1.trans (hE5.trans (hE6.trans hE7))) r2 (by omega), _, rfl, s6, a6, c6, l6, rfl, h61, h62, h7⟩
end Go.Proofs.YtjbhcniiioepgaaGreat

namespace Go.Proofs.YtjbhcniiioepgaaGreat
open Go.RowKit Go.Rep Go.Lim

set_option maxRecDepth 100000 in
set_option maxHeartbeats 800000 in
theorem riadd (X : Nat → Bool) (w : World) (u v : Value) (x y : Int) (hX : HX X w) (hu : ZV (mk X w) u x) (hv : ZV (mk X w) v y) : Calls Tryz.prog 137 #[u, v] w (ROut X w ZC (x + y)) := by
  have hlx := hid hu.lg
  have hly := hid hv.lg
  obtain ⟨s1, a1, c1, l1, rfl, hu'⟩ := id hu
  obtain ⟨s2, a2, c2, l2, rfl, hv'⟩ := id hv
  obtain ⟨W, hW, hE, b0, b1, b2, hz⟩ := boxes3 w #[.bool s1, .slice a1 l1.length c1] #[.bool s2, .slice a2 l2.length c2] #[.bool false, .slice none 0 0] 29 29 29
  have hXW : HX (hidB X w.heap.size 3) W := hX.boxes hz
  have hu1 := ZV.mono _ _ _ _ (le_boxes (nb := 3) hE) hu
  have hv1 := ZV.mono _ _ _ _ (le_boxes (nb := 3) hE) hv
  obtain ⟨b, hb⟩ : ∃ b, w.heap.size = b := ⟨_, rfl⟩
  have hbw : w.heap.size ≤ b := by omega
  rw [hb] at b0 b1 b2 hz hXW hu1 hv1
  have hEd : Ext W W.drew := (ExtX.refl W).drew
  have hXd : HX (hidB X b 3) W.drew := hXW
  have hud : ZV (mk (hidB X b 3) W.drew) (.agg #[.bool s1, .slice a1 l1.length c1]) x := hu1
  have hvd : ZV (mk (hidB X b 3) W.drew) (.agg #[.bool s2, .slice a2 l2.length c2]) y := hv1
  have k00 := b0.cell 0 rfl
  have k01 := b0.cell 1 rfl
  have k10 := b1.cell 0 rfl
  have k11 := b1.cell 1 rfl
  clear hu hv hu' hv'
  go_enter Tryz.func137, Tryz.ntmps137
  go_upto_region 1 with (fail)
  go_cut [] from 9 to 12 (fun wx => ∃ s3 a3 c3 l3 s4 a4 c4 l4, Bx wx b #[.bool s3, .slice a3 l3 c3] 29 ∧ Bx wx (b + 1) #[.bool s4, .slice a4 l4 c4] 29 ∧ Bx wx (b + 1 + 1) #[.bool false, .slice none 0 0] 29 ∧ ZC (mk (hidB X b 3) wx) (.agg #[.bool s3, .slice a3 l3 c3]) x ∧ ZC (mk (hidB X b 3) wx) (.agg #[.bool s4, .slice a4 l4 c4]) y ∧ Ext w wx)
  case first =>
    go_region_with (first | (go_at_call 133; (with_reducible refine (ritake (hidB X b 3) W.drew _ x hXd hud).mono ?_); rintro e w5 ⟨hE5, u5, rfl, s5, a5, c5, l5, rfl, h51, h52, h53⟩; have bb0 := b0.ext0 (hEd.trans hE5); have bb1 := b1.ext0 (hEd.trans hE5); have e00 := bb0.cell 0 rfl; have e01 := bb0.cell 1 rfl; have e10 := bb1.cell 0 rfl; have e11 := bb1.cell 1 rfl) | (go_at_call 133; (with_reducible refine (ritake (hidB X b 3) w5 _ y (HX.ext hXd hE5) (mkx ZV.mono hvd hE5)).mono ?_); rintro e w6 ⟨hE6, u6, rfl, s6, a6, c6, l6, rfl, h61, h62, h63⟩; have bb2 := bb0.ext0 hE6; have bb3 := bb1.ext0 hE6; have g00 := bb2.cell 0 rfl; have g01 := bb2.cell 1 rfl; have g10 := bb3.cell 0 rfl; have g11 := bb3.cell 1 rfl; have fr0 := bb2.frozen 0; have fr1 := bb2.frozen 1; have fr2 := bb3.frozen 0; have fr3 := bb3.frozen 1))
    all_goals
      obtain ⟨wf, hwf, q0, q1, q2, q3, q4⟩ := two_stores (X := X) (nb := 3) bb2 bb3 (hE.trans ((hEd.trans hE5).trans hE6)) hbw (by omega) (.bool s5) (.slice a5 l5.length c5) (.bool s6) (.slice a6 l6.length c6)
      rw [hwf]
      have hfx : ZC (mk (hidB X b 3) wf) (.agg #[.bool s5, .slice a5 l5.length c5]) x := ⟨s5, a5, c5, l5, rfl, h51, h52, (h53.mono (NatIn.mono _) (mk_ext hE6)).mono (NatIn.mono _) q4⟩
      have hfy : ZC (mk (hidB X b 3) wf) (.agg #[.bool s6, .slice a6 l6.length c6]) y := ⟨s6, a6, c6, l6, rfl, h61, h62, h63.mono (NatIn.mono _) q4⟩
      have q5 := q2 (b + 1 + 1) _ _ (by omega) (by omega) ((b2.ext0 (hEd.trans hE5)).ext0 hE6)
      clear e00 e01 e10 e11 g00 g01 g10 g11 fr0 fr1 fr2 fr3 k00 k01 k10 k11 hwf
      go_wp2_with fail
      go_meet
      exact ⟨_, _, _, _, _, _, _, _, q0, q1, q5, hfx, hfy, q3⟩
  case rest =>
    clear k00 k01 k10 k11 b0 b1 b2 hu1 hv1 hud hvd hXd hEd hW
    obtain ⟨s3, a3, c3, n3, s4, a4, c4, n4, b0, b1, b2, hx, hy, hE1⟩ := hcut
    obtain ⟨_, _, _, l3, heq, h31, h32, h33⟩ := hx
    simp only [Value.agg.injEq, Array.mk.injEq, List.cons.injEq, Value.bool.injEq, Value.slice.injEq, and_true] at heq
    obtain ⟨rfl, rfl, rfl, rfl⟩ := heq
    obtain ⟨_, _, _, l4, heq, h41, h42, h43⟩ := hy
    simp only [Value.agg.injEq, Array.mk.injEq, List.cons.injEq, Value.bool.injEq, Value.slice.injEq, and_true] at heq
    obtain ⟨rfl, rfl, rfl, rfl⟩ := heq
    have hnx : NV (mk (hidB X b 3) wc) (.slice a3 l3.length c3) x.natAbs := NC.nv ⟨a3, c3, l3, rfl, h31, h32.2, h33⟩ (by have := hlx.out; omega)
    have hny : NV (mk (hidB X b 3) wc) (.slice a4 l4.length c4) y.natAbs := NC.nv ⟨a4, c4, l4, rfl, h41, h42.2, h43⟩ (by have := hly.out; omega)
    have hsx := hid h32.1
    have hsy := hid h42.1
    have hzz : w.heap.size + 3 ≤ wc.heap.size := by have := b2.lt; omega
    have hXc : HX (hidB X b 3) wc := hX.boxes' hE1 (by omega) hzz
    have hB := hid (And.intro b0 (And.intro b1 b2))
    have k00 := b0.cell 0 rfl
    have k01 := b0.cell 1 rfl
    have k10 := b1.cell 0 rfl
    have k11 := b1.cell 1 rfl
    have hlz := hid (sg_of h32)
    have hlw := hid (sg_of h42)
    have hEd : Ext wc wc.drew := (ExtX.refl wc).drew
    have hn1 : b + 1 ≠ b + 1 + 1 := by omega
    have hn2 : b ≠ b + 1 + 1 := by omega
    by_cases hss : s3 = s4
    · subst hss
      have hfin : Hid (sg s3 (x.natAbs + y.natAbs) = x + y) := hid (by
        have e1 := hlz.out; have e2 := hlw.out
        unfold sg at *
        cases s3 <;> simp at * <;> omega)
      go_wp2_with fail
      go_region_held3 (fun w' => w'.cell? ⟨b, 0, none⟩ = some (.bool s3) ∧ w'.cell? ⟨b, 1, none⟩ = some (.slice a3 l3.length c3) ∧ w'.cell? ⟨b + 1, 1, none⟩ = some (.slice a4 l4.length c4))
        (first | exact ⟨(hB.out.1.ext0 (hEd.trans hE5)).cell 0 rfl, (hB.out.1.ext0 (hEd.trans hE5)).cell 1 rfl, (hB.out.2.1.ext0 (hEd.trans hE5)).cell 1 rfl⟩ | exact ⟨(hB.out.1.ext0 (hEd.trans (hE5.trans hE6))).cell 0 rfl, (hB.out.1.ext0 (hEd.trans (hE5.trans hE6))).cell 1 rfl, (hB.out.2.1.ext0 (hEd.trans (hE5.trans hE6))).cell 1 rfl⟩ | exact ⟨((hB.out.1.ext0 (hEd.trans (hE5.trans hE6))).ext (bb2.set2 _ _).2 (ob_other (by omega))).cell 0 rfl, ((hB.out.1.ext0 (hEd.trans (hE5.trans hE6))).ext (bb2.set2 _ _).2 (ob_other (by omega))).cell 1 rfl, ((hB.out.2.1.ext0 (hEd.trans (hE5.trans hE6))).ext (bb2.set2 _ _).2 (ob_other (by omega))).cell 1 rfl⟩ | go_keep)
        (first | (go_at_call 171; refine (rnadd (X := hidB X b 3) (w := wc.drew) hXc hnx hny).mono ?_; rintro e w5 ⟨hE5, u5, rfl, hu5⟩) | (go_at_call 169; refine (risigned (hidB X b 3) w5 s3 u5 (x.natAbs + y.natAbs) (HX.ext (w := wc.drew) hXc hE5) hu5).mono ?_; rintro e w6 ⟨hE6, u6, rfl, s6, a6, c6, l6, rfl, h61, h62, h63⟩; have bb2 := hB.out.2.2.ext0 (hEd.trans (hE5.trans hE6)); have g1 := bb2.cell 0 rfl; have g2 := bb2.cell 1 rfl; have g3 := bb2.frozen 0; have g4 := bb2.frozen 1))
      obtain ⟨r1, r2⟩ := bb2.set2 (.bool s6) (.slice a6 l6.length c6)
      have h7 := (h63.mono (NatIn.mono _) (le_store r2 (by omega) (by omega))).mono (NatIn.mono _) le_unbox
      rw [hfin.out] at h62
      have hEf : Ext w _ := ExtX.box (hE1.trans (hEd.trans (hE5.trans hE6))) r2 (by omega)
      clear g1 g2 g3 g4 k00 k01 k10 k11
      go_wp2_with fail
      exact bodyPost_ret (results_box rfl rfl stInt r1 rfl) rfl ⟨hEf, _, rfl, s6, a6, c6, l6, rfl, h61, h62, h7⟩
    · have hne : (s3 == s4) = false := by simpa using hss
      have hfin1 : Hid (y.natAbs ≤ x.natAbs → sg s3 (x.natAbs - y.natAbs) = x + y) := hid (fun h => by
        have e1 := hlz.out; have e2 := hlw.out
        unfold sg at *
        cases s3 <;> cases s4 <;> simp at * <;> omega)
      have hfin2 : Hid (¬ y.natAbs ≤ x.natAbs → sg s4 (y.natAbs - x.natAbs) = x + y) := hid (fun h => by
        have e1 := hlz.out; have e2 := hlw.out
        unfold sg at *
        cases s3 <;> cases s4 <;> simp at * <;> omega)
      clear hss
      go_wp2_with fail
      refine (rnsub _ _ _ _ _ _ hXc hnx hny).mono ?_
      rintro e w5 ⟨hE5, u5, rfl, hu5⟩
      have hX5 := hXc.ext hE5
      have bb0 := hB.out.1.ext0 hE5
      have bb1 := hB.out.2.1.ext0 hE5
      have bb2 := hB.out.2.2.ext0 hE5
      clear k00 k01 k10 k11
      have k00 := bb0.cell 0 rfl
      have k01 := bb0.cell 1 rfl
      have k10 := bb1.cell 0 rfl
      have k11 := bb1.cell 1 rfl
      by_cases hle : y.natAbs ≤ x.natAbs
      · have hd : decide (y.natAbs ≤ x.natAbs) = true := decide_eq_true hle
        have hf := hid (hfin1.out hle)
        rw [hd]
        clear hd hle
        go_wp2_with fail
        refine (risigned (hidB X b 3) w5 s3 u5 _ hX5 hu5).mono ?_
        rintro e w6 ⟨hE6, u6, rfl, s6, a6, c6, l6, rfl, h61, h62, h63⟩
        have bb3 := bb2.ext0 hE6
        clear k00 k01 k10 k11
        go_wp2_with ((with_reducible show wpList _ _ _ (⟨_, .store _ _ _, _, _, _, _⟩ :: _) _ _); refine st_storeBox stInt rfl rfl bb3 rfl rfl (one2 _ _ _ _) ?_; intro w7 r1 r2)
        have h7 := (h63.mono (NatIn.mono _) (le_store r2 (by omega) (by omega))).mono (NatIn.mono _) le_unbox
        rw [hf.out] at h62
        exact bodyPost_ret (results_box rfl rfl stInt r1 rfl) rfl ⟨ExtX.box (hE1.trans (hE5.trans hE6)) r2 (by omega), _, rfl, s6, a6, c6, l6, rfl, h61, h62, h7⟩
      · have hd : decide (y.natAbs ≤ x.natAbs) = false := decide_eq_false hle
        have hf := hid (hfin2.out hle)
        rw [hd]
        clear hd hle
        go_wp2_with fail
        refine (rnsub _ _ _ _ _ _ hX5 (mkx NV.mono hny hE5) (mkx NV.mono hnx hE5)).mono ?_
        rintro e w6 ⟨hE6, v5, rfl, hv5⟩
        have bc0 := bb0.ext0 hE6
        have bc1 := bb1.ext0 hE6
        have bc2 := bb2.ext0 hE6
        clear k00 k01 k10 k11
        have k10 := bc1.cell 0 rfl
        have k11 := bc1.cell 1 rfl
        go_wp2_with fail
        refine (risigned (hidB X b 3) w6 s4 v5 _ (hX5.ext hE6) hv5).mono ?_
        rintro e w7 ⟨hE7, u6, rfl, s6, a6, c6, l6, rfl, h61, h62, h63⟩
        have bb3 := bc2.ext0 hE7
        clear k10 k11
        go_wp2_with ((with_reducible show wpList _ _ _ (⟨_, .store _ _ _, _, _, _, _⟩ :: _) _ _); refine st_storeBox stInt rfl rfl bb3 rfl rfl (one2 _ _ _ _) ?_; intro w8 r1 r2)
        have h7 := (h63.mono (NatIn.mono _) (le_store r2 (by omega) (by omega))).mono (NatIn.mono _) le_unbox
        rw [hf.out] at h62
        exact bodyPost_ret (results_box rfl rfl stInt r1 rfl) rfl ⟨ExtX.box (hE1.trans (hE5.trans (hE6.trans hE7))) r2 (by omega), _, rfl, s6, a6, c6, l6, rfl, h61, h62, h7⟩
end Go.Proofs.YtjbhcniiioepgaaGreat

namespace Go.Proofs.YtjbhcniiioepgaaGreat
open Go.RowKit Go.Rep Go.Lim

set_option maxRecDepth 100000 in
set_option maxHeartbeats 800000 in
theorem imul (X : Nat → Bool) (w : World) (u v : Value) (x y : Int) (hX : HX X w) (hu : ZV (mk X w) u x) (hv : ZV (mk X w) v y) : Calls Tryz.prog 150 #[u, v] w (ROut X w ZC (x * y)) := by
  have hlx := hid hu.lg
  have hly := hid hv.lg
  obtain ⟨s1, a1, c1, l1, rfl, hu'⟩ := id hu
  obtain ⟨s2, a2, c2, l2, rfl, hv'⟩ := id hv
  obtain ⟨W, hW, hE, b0, b1, b2, hz⟩ := boxes3 w #[.bool s1, .slice a1 l1.length c1] #[.bool s2, .slice a2 l2.length c2] #[.bool false, .slice none 0 0] 29 29 29
  have hXW : HX (hidB X w.heap.size 3) W := hX.boxes hz
  have hu1 := ZV.mono _ _ _ _ (le_boxes (nb := 3) hE) hu
  have hv1 := ZV.mono _ _ _ _ (le_boxes (nb := 3) hE) hv
  obtain ⟨b, hb⟩ : ∃ b, w.heap.size = b := ⟨_, rfl⟩
  have hbw : w.heap.size ≤ b := by omega
  rw [hb] at b0 b1 b2 hz hXW hu1 hv1
  have hEd : Ext W W.drew := (ExtX.refl W).drew
  have hXd : HX (hidB X b 3) W.drew := hXW
  have hud : ZV (mk (hidB X b 3) W.drew) (.agg #[.bool s1, .slice a1 l1.length c1]) x := hu1
  have hvd : ZV (mk (hidB X b 3) W.drew) (.agg #[.bool s2, .slice a2 l2.length c2]) y := hv1
  have k00 := b0.cell 0 rfl
  have k01 := b0.cell 1 rfl
  have k10 := b1.cell 0 rfl
  have k11 := b1.cell 1 rfl
  clear hu hv hu' hv'
  go_enter Tryz.func150, Tryz.ntmps150
  go_upto_region 1 with (fail)
  go_cut [] from 5 to 8 (fun wx => ∃ s3 a3 c3 l3 s4 a4 c4 l4, Bx wx b #[.bool s3, .slice a3 l3 c3] 29 ∧ Bx wx (b + 1) #[.bool s4, .slice a4 l4 c4] 29 ∧ Bx wx (b + 1 + 1) #[.bool false, .slice none 0 0] 29 ∧ ZC (mk (hidB X b 3) wx) (.agg #[.bool s3, .slice a3 l3 c3]) x ∧ ZC (mk (hidB X b 3) wx) (.agg #[.bool s4, .slice a4 l4 c4]) y ∧ Ext w wx)
  case first =>
    go_region_with (first | (go_at_call 195; (with_reducible refine (ivalue (hidB X b 3) W.drew _ x hXd hud).mono ?_); rintro e w5 ⟨hE5, u5, rfl, s5, a5, c5, l5, rfl, h51, h52, h53⟩; have bb0 := b0.ext0 (hEd.trans hE5); have bb1 := b1.ext0 (hEd.trans hE5); have e00 := bb0.cell 0 rfl; have e01 := bb0.cell 1 rfl; have e10 := bb1.cell 0 rfl; have e11 := bb1.cell 1 rfl) | (go_at_call 195; (with_reducible refine (ivalue (hidB X b 3) w5 _ y (HX.ext hXd hE5) (mkx ZV.mono hvd hE5)).mono ?_); rintro e w6 ⟨hE6, u6, rfl, s6, a6, c6, l6, rfl, h61, h62, h63⟩; have bb2 := bb0.ext0 hE6; have bb3 := bb1.ext0 hE6; have g00 := bb2.cell 0 rfl; have g01 := bb2.cell 1 rfl; have g10 := bb3.cell 0 rfl; have g11 := bb3.cell 1 rfl; have fr0 := bb2.frozen 0; have fr1 := bb2.frozen 1; have fr2 := bb3.frozen 0; have fr3 := bb3.frozen 1))
    all_goals
      obtain ⟨wf, hwf, q0, q1, q2, q3, q4⟩ := two_stores (X := X) (nb := 3) bb2 bb3 (hE.trans ((hEd.trans hE5).trans hE6)) hbw (by omega) (.bool s5) (.slice a5 l5.length c5) (.bool s6) (.slice a6 l6.length c6)
      rw [hwf]
      have hfx : ZC (mk (hidB X b 3) wf) (.agg #[.bool s5, .slice a5 l5.length c5]) x := ⟨s5, a5, c5, l5, rfl, h51, h52, (h53.mono (NatIn.mono _) (mk_ext hE6)).mono (NatIn.mono _) q4⟩
      have hfy : ZC (mk (hidB X b 3) wf) (.agg #[.bool s6, .slice a6 l6.length c6]) y := ⟨s6, a6, c6, l6, rfl, h61, h62, h63.mono (NatIn.mono _) q4⟩
      have q5 := q2 (b + 1 + 1) _ _ (by omega) (by omega) ((b2.ext0 (hEd.trans hE5)).ext0 hE6)
      clear e00 e01 e10 e11 g00 g01 g10 g11 fr0 fr1 fr2 fr3 k00 k01 k10 k11 hwf
      go_wp2_with fail
      go_meet
      exact ⟨_, _, _, _, _, _, _, _, q0, q1, q5, hfx, hfy, q3⟩
  case rest =>
    clear k00 k01 k10 k11 b0 b1 b2 hu1 hv1 hud hvd hXd hEd hW
    obtain ⟨s3, a3, c3, n3, s4, a4, c4, n4, b0, b1, b2, hx, hy, hE1⟩ := hcut
    obtain ⟨_, _, _, l3, heq, h31, h32, h33⟩ := hx
    simp only [Value.agg.injEq, Array.mk.injEq, List.cons.injEq, Value.bool.injEq, Value.slice.injEq, and_true] at heq
    obtain ⟨rfl, rfl, rfl, rfl⟩ := heq
    obtain ⟨_, _, _, l4, heq, h41, h42, h43⟩ := hy
    simp only [Value.agg.injEq, Array.mk.injEq, List.cons.injEq, Value.bool.injEq, Value.slice.injEq, and_true] at heq
    obtain ⟨rfl, rfl, rfl, rfl⟩ := heq
    have hlz := hid (sg_of h32)
    have hlw := hid (sg_of h42)
    have hsx := hid h32.1
    have hsy := hid h42.1
    have hEd : Ext wc wc.drew := (ExtX.refl wc).drew
    have hnx : NV (mk (hidB X b 3) wc) (.slice a3 l3.length c3) x.natAbs := NC.nv ⟨a3, c3, l3, rfl, h31, h32.2, h33⟩ (by have := hlx.out; omega)
    have hny : NV (mk (hidB X b 3) wc) (.slice a4 l4.length c4) y.natAbs := NC.nv ⟨a4, c4, l4, rfl, h41, h42.2, h43⟩ (by have := hly.out; omega)
    have hzz : w.heap.size + 3 ≤ wc.heap.size := by have := b2.lt; omega
    have hXc : HX (hidB X b 3) wc := hX.boxes' hE1 (by omega) hzz
    have hB := hid (And.intro b0 (And.intro b1 b2))
    have k00 := b0.cell 0 rfl
    have k01 := b0.cell 1 rfl
    have k10 := b1.cell 0 rfl
    have k11 := b1.cell 1 rfl
    have hn1 : b + 1 ≠ b + 1 + 1 := by omega
    have hn2 : b ≠ b + 1 + 1 := by omega
    obtain ⟨sn, hsn⟩ : ∃ sn, (s3 != s4) = sn := ⟨_, rfl⟩
    have hfin : Hid (sg sn (x.natAbs * y.natAbs) = x * y) := hid (by
      have e1 := hlz.out; have e2 := hlw.out
      rw [← hsn, ← e1, ← e2, sg_abs, sg_abs]
      unfold sg
      cases s3 <;> cases s4 <;> simp [Int.natCast_mul, Int.neg_mul, Int.mul_neg])
    have hsn' := hid hsn
    clear hsx hsy hlz hlw hsn h32 h42
    cases s3 <;> cases s4
    · obtain rfl : sn = false := hsn'.out.symm
      clear hsn'
      go_wp2_with fail
      go_region_held3 (fun w' => w'.cell? ⟨b, 0, none⟩ = some (.bool false) ∧ w'.cell? ⟨b, 1, none⟩ = some (.slice a3 l3.length c3) ∧ w'.cell? ⟨b + 1, 0, none⟩ = some (.bool false) ∧ w'.cell? ⟨b + 1, 1, none⟩ = some (.slice a4 l4.length c4))
        (first | exact ⟨(hB.out.1.ext0 (hEd.trans hE5)).cell 0 rfl, (hB.out.1.ext0 (hEd.trans hE5)).cell 1 rfl, (hB.out.2.1.ext0 (hEd.trans hE5)).cell 0 rfl, (hB.out.2.1.ext0 (hEd.trans hE5)).cell 1 rfl⟩ | exact ⟨(hB.out.1.ext0 (hEd.trans (hE5.trans hE6))).cell 0 rfl, (hB.out.1.ext0 (hEd.trans (hE5.trans hE6))).cell 1 rfl, (hB.out.2.1.ext0 (hEd.trans (hE5.trans hE6))).cell 0 rfl, (hB.out.2.1.ext0 (hEd.trans (hE5.trans hE6))).cell 1 rfl⟩ | exact ⟨((hB.out.1.ext0 (hEd.trans (hE5.trans hE6))).ext (bb2.set2 _ _).2 (ob_other (by omega))).cell 0 rfl, ((hB.out.1.ext0 (hEd.trans (hE5.trans hE6))).ext (bb2.set2 _ _).2 (ob_other (by omega))).cell 1 rfl, ((hB.out.2.1.ext0 (hEd.trans (hE5.trans hE6))).ext (bb2.set2 _ _).2 (ob_other (by omega))).cell 0 rfl, ((hB.out.2.1.ext0 (hEd.trans (hE5.trans hE6))).ext (bb2.set2 _ _).2 (ob_other (by omega))).cell 1 rfl⟩ | go_keep)
        (first | (go_at_call 152; refine (nmul (X := hidB X b 3) (w := wc.drew) hXc hnx hny).mono ?_; rintro e w5 ⟨hE5, u5, rfl, hu5⟩) | (go_at_call 201; refine (isigned (hidB X b 3) w5 false u5 (x.natAbs * y.natAbs) (HX.ext (w := wc.drew) hXc hE5) hu5).mono ?_; rintro e w6 ⟨hE6, u6, rfl, s6, a6, c6, l6, rfl, h61, h62, h63⟩; have bb2 := hB.out.2.2.ext0 (hEd.trans (hE5.trans hE6)); have g1 := bb2.cell 0 rfl; have g2 := bb2.cell 1 rfl; have g3 := bb2.frozen 0; have g4 := bb2.frozen 1))
      obtain ⟨r1, r2⟩ := bb2.set2 (.bool s6) (.slice a6 l6.length c6)
      have h7 := (h63.mono (NatIn.mono _) (le_store r2 (by omega) (by omega))).mono (NatIn.mono _) le_unbox
      rw [hfin.out] at h62
      have hEf : Ext w _ := ExtX.box (hE1.trans (hEd.trans (hE5.trans hE6))) r2 (by omega)
      clear g1 g2 g3 g4 k00 k01 k10 k11
      go_wp2_with fail
      exact bodyPost_ret (results_box rfl rfl stInt r1 rfl) rfl ⟨hEf, _, rfl, s6, a6, c6, l6, rfl, h61, h62, h7⟩
    · obtain rfl : sn = true := hsn'.out.symm
      clear hsn'
      go_wp2_with fail
      go_region_held3 (fun w' => w'.cell? ⟨b, 0, none⟩ = some (.bool false) ∧ w'.cell? ⟨b, 1, none⟩ = some (.slice a3 l3.length c3) ∧ w'.cell? ⟨b + 1, 0, none⟩ = some (.bool true) ∧ w'.cell? ⟨b + 1, 1, none⟩ = some (.slice a4 l4.length c4))
        (first | exact ⟨(hB.out.1.ext0 (hEd.trans hE5)).cell 0 rfl, (hB.out.1.ext0 (hEd.trans hE5)).cell 1 rfl, (hB.out.2.1.ext0 (hEd.trans hE5)).cell 0 rfl, (hB.out.2.1.ext0 (hEd.trans hE5)).cell 1 rfl⟩ | exact ⟨(hB.out.1.ext0 (hEd.trans (hE5.trans hE6))).cell 0 rfl, (hB.out.1.ext0 (hEd.trans (hE5.trans hE6))).cell 1 rfl, (hB.out.2.1.ext0 (hEd.trans (hE5.trans hE6))).cell 0 rfl, (hB.out.2.1.ext0 (hEd.trans (hE5.trans hE6))).cell 1 rfl⟩ | exact ⟨((hB.out.1.ext0 (hEd.trans (hE5.trans hE6))).ext (bb2.set2 _ _).2 (ob_other (by omega))).cell 0 rfl, ((hB.out.1.ext0 (hEd.trans (hE5.trans hE6))).ext (bb2.set2 _ _).2 (ob_other (by omega))).cell 1 rfl, ((hB.out.2.1.ext0 (hEd.trans (hE5.trans hE6))).ext (bb2.set2 _ _).2 (ob_other (by omega))).cell 0 rfl, ((hB.out.2.1.ext0 (hEd.trans (hE5.trans hE6))).ext (bb2.set2 _ _).2 (ob_other (by omega))).cell 1 rfl⟩ | go_keep)
        (first | (go_at_call 152; refine (nmul (X := hidB X b 3) (w := wc.drew) hXc hnx hny).mono ?_; rintro e w5 ⟨hE5, u5, rfl, hu5⟩) | (go_at_call 201; refine (isigned (hidB X b 3) w5 true u5 (x.natAbs * y.natAbs) (HX.ext (w := wc.drew) hXc hE5) hu5).mono ?_; rintro e w6 ⟨hE6, u6, rfl, s6, a6, c6, l6, rfl, h61, h62, h63⟩; have bb2 := hB.out.2.2.ext0 (hEd.trans (hE5.trans hE6)); have g1 := bb2.cell 0 rfl; have g2 := bb2.cell 1 rfl; have g3 := bb2.frozen 0; have g4 := bb2.frozen 1))
      obtain ⟨r1, r2⟩ := bb2.set2 (.bool s6) (.slice a6 l6.length c6)
      have h7 := (h63.mono (NatIn.mono _) (le_store r2 (by omega) (by omega))).mono (NatIn.mono _) le_unbox
      rw [hfin.out] at h62
      have hEf : Ext w _ := ExtX.box (hE1.trans (hEd.trans (hE5.trans hE6))) r2 (by omega)
      clear g1 g2 g3 g4 k00 k01 k10 k11
      go_wp2_with fail
      exact bodyPost_ret (results_box rfl rfl stInt r1 rfl) rfl ⟨hEf, _, rfl, s6, a6, c6, l6, rfl, h61, h62, h7⟩
    · obtain rfl : sn = true := hsn'.out.symm
      clear hsn'
      go_wp2_with fail
      go_region_held3 (fun w' => w'.cell? ⟨b, 0, none⟩ = some (.bool true) ∧ w'.cell? ⟨b, 1, none⟩ = some (.slice a3 l3.length c3) ∧ w'.cell? ⟨b + 1, 0, none⟩ = some (.bool false) ∧ w'.cell? ⟨b + 1, 1, none⟩ = some (.slice a4 l4.length c4))
        (first | exact ⟨(hB.out.1.ext0 (hEd.trans hE5)).cell 0 rfl, (hB.out.1.ext0 (hEd.trans hE5)).cell 1 rfl, (hB.out.2.1.ext0 (hEd.trans hE5)).cell 0 rfl, (hB.out.2.1.ext0 (hEd.trans hE5)).cell 1 rfl⟩ | exact ⟨(hB.out.1.ext0 (hEd.trans (hE5.trans hE6))).cell 0 rfl, (hB.out.1.ext0 (hEd.trans (hE5.trans hE6))).cell 1 rfl, (hB.out.2.1.ext0 (hEd.trans (hE5.trans hE6))).cell 0 rfl, (hB.out.2.1.ext0 (hEd.trans (hE5.trans hE6))).cell 1 rfl⟩ | exact ⟨((hB.out.1.ext0 (hEd.trans (hE5.trans hE6))).ext (bb2.set2 _ _).2 (ob_other (by omega))).cell 0 rfl, ((hB.out.1.ext0 (hEd.trans (hE5.trans hE6))).ext (bb2.set2 _ _).2 (ob_other (by omega))).cell 1 rfl, ((hB.out.2.1.ext0 (hEd.trans (hE5.trans hE6))).ext (bb2.set2 _ _).2 (ob_other (by omega))).cell 0 rfl, ((hB.out.2.1.ext0 (hEd.trans (hE5.trans hE6))).ext (bb2.set2 _ _).2 (ob_other (by omega))).cell 1 rfl⟩ | go_keep)
        (first | (go_at_call 152; refine (nmul (X := hidB X b 3) (w := wc.drew) hXc hnx hny).mono ?_; rintro e w5 ⟨hE5, u5, rfl, hu5⟩) | (go_at_call 201; refine (isigned (hidB X b 3) w5 true u5 (x.natAbs * y.natAbs) (HX.ext (w := wc.drew) hXc hE5) hu5).mono ?_; rintro e w6 ⟨hE6, u6, rfl, s6, a6, c6, l6, rfl, h61, h62, h63⟩; have bb2 := hB.out.2.2.ext0 (hEd.trans (hE5.trans hE6)); have g1 := bb2.cell 0 rfl; have g2 := bb2.cell 1 rfl; have g3 := bb2.frozen 0; have g4 := bb2.frozen 1))
      obtain ⟨r1, r2⟩ := bb2.set2 (.bool s6) (.slice a6 l6.length c6)
      have h7 := (h63.mono (NatIn.mono _) (le_store r2 (by omega) (by omega))).mono (NatIn.mono _) le_unbox
      rw [hfin.out] at h62
      have hEf : Ext w _ := ExtX.box (hE1.trans (hEd.trans (hE5.trans hE6))) r2 (by omega)
      clear g1 g2 g3 g4 k00 k01 k10 k11
      go_wp2_with fail
      exact bodyPost_ret (results_box rfl rfl stInt r1 rfl) rfl ⟨hEf, _, rfl, s6, a6, c6, l6, rfl, h61, h62, h7⟩
    · obtain rfl : sn = false := hsn'.out.symm
      clear hsn'
      go_wp2_with fail
      go_region_held3 (fun w' => w'.cell? ⟨b, 0, none⟩ = some (.bool true) ∧ w'.cell? ⟨b, 1, none⟩ = some (.slice a3 l3.length c3) ∧ w'.cell? ⟨b + 1, 0, none⟩ = some (.bool true) ∧ w'.cell? ⟨b + 1, 1, none⟩ = some (.slice a4 l4.length c4))
        (first | exact ⟨(hB.out.1.ext0 (hEd.trans hE5)).cell 0 rfl, (hB.out.1.ext0 (hEd.trans hE5)).cell 1 rfl, (hB.out.2.1.ext0 (hEd.trans hE5)).cell 0 rfl, (hB.out.2.1.ext0 (hEd.trans hE5)).cell 1 rfl⟩ | exact ⟨(hB.out.1.ext0 (hEd.trans (hE5.trans hE6))).cell 0 rfl, (hB.out.1.ext0 (hEd.trans (hE5.trans hE6))).cell 1 rfl, (hB.out.2.1.ext0 (hEd.trans (hE5.trans hE6))).cell 0 rfl, (hB.out.2.1.ext0 (hEd.trans (hE5.trans hE6))).cell 1 rfl⟩ | exact ⟨((hB.out.1.ext0 (hEd.trans (hE5.trans hE6))).ext (bb2.set2 _ _).2 (ob_other (by omega))).cell 0 rfl, ((hB.out.1.ext0 (hEd.trans (hE5.trans hE6))).ext (bb2.set2 _ _).2 (ob_other (by omega))).cell 1 rfl, ((hB.out.2.1.ext0 (hEd.trans (hE5.trans hE6))).ext (bb2.set2 _ _).2 (ob_other (by omega))).cell 0 rfl, ((hB.out.2.1.ext0 (hEd.trans (hE5.trans hE6))).ext (bb2.set2 _ _).2 (ob_other (by omega))).cell 1 rfl⟩ | go_keep)
        (first | (go_at_call 152; refine (nmul (X := hidB X b 3) (w := wc.drew) hXc hnx hny).mono ?_; rintro e w5 ⟨hE5, u5, rfl, hu5⟩) | (go_at_call 201; refine (isigned (hidB X b 3) w5 false u5 (x.natAbs * y.natAbs) (HX.ext (w := wc.drew) hXc hE5) hu5).mono ?_; rintro e w6 ⟨hE6, u6, rfl, s6, a6, c6, l6, rfl, h61, h62, h63⟩; have bb2 := hB.out.2.2.ext0 (hEd.trans (hE5.trans hE6)); have g1 := bb2.cell 0 rfl; have g2 := bb2.cell 1 rfl; have g3 := bb2.frozen 0; have g4 := bb2.frozen 1))
      obtain ⟨r1, r2⟩ := bb2.set2 (.bool s6) (.slice a6 l6.length c6)
      have h7 := (h63.mono (NatIn.mono _) (le_store r2 (by omega) (by omega))).mono (NatIn.mono _) le_unbox
      rw [hfin.out] at h62
      have hEf : Ext w _ := ExtX.box (hE1.trans (hEd.trans (hE5.trans hE6))) r2 (by omega)
      clear g1 g2 g3 g4 k00 k01 k10 k11
      go_wp2_with fail
      exact bodyPost_ret (results_box rfl rfl stInt r1 rfl) rfl ⟨hEf, _, rfl, s6, a6, c6, l6, rfl, h61, h62, h7⟩

theorem ineg (X : Nat → Bool) (w : World) (u : Value) (x : Int) (hX : HX X w) (hu : ZV (mk X w) u x) : Calls Tryz.prog 154 #[u] w (ROut X w ZC (-x)) := by
  have hlx := hid hu.lg
  obtain ⟨s1, a1, c1, l1, rfl, hu'⟩ := id hu
  obtain ⟨W, hW, hE, b0, b1, hz⟩ := boxes2 w #[.bool s1, .slice a1 l1.length c1] #[.bool false, .slice none 0 0] 29 29
  have hXW : HX (hidB X w.heap.size 2) W := hX.boxes hz
  have hu1 := ZV.mono _ _ _ _ (le_boxes (nb := 2) hE) hu
  obtain ⟨b, hb⟩ : ∃ b, w.heap.size = b := ⟨_, rfl⟩
  have hbw : w.heap.size ≤ b := by omega
  rw [hb] at b0 b1 hz hXW hu1
  have k00 := b0.cell 0 rfl
  have k01 := b0.cell 1 rfl
  clear hu hu'
  go_enter Tryz.func154, Tryz.ntmps154
  go_wp2_with fail
  refine (ivalue (hidB X b 2) W _ x hXW hu1).mono ?_
  rintro e w5 ⟨hE5, u5, rfl, hu5⟩
  have hX5 := hXW.ext hE5
  clear k00 k01
  go_wp2_with fail
  refine (icopied (hidB X b 2) w5 _ x hX5 hu5 hlx.out).mono ?_
  rintro e w6 ⟨hE6, u6, rfl, s6, a6, c6, l6, rfl, h61, h62, h63⟩
  have bb0 := (b0.ext0 hE5).ext0 hE6
  have bb1 := (b1.ext0 hE5).ext0 hE6
  have hsz := hid (sg_of h62)
  go_wp2_with ((with_reducible show wpList _ _ _ (⟨_, .store _ _ _, _, _, _, _⟩ :: _) _ _); refine st_storeBox stInt rfl rfl bb0 rfl rfl (one2 _ _ _ _) ?_; intro w7 r1 r2; have k00 := r1.cell 0 rfl; have k01 := r1.cell 1 rfl)
  have hX7 := (hX5.ext hE6).ext r2
  have bb3 := bb1.ext r2 (ob_other (by omega))
  have hn : NC (mk (hidB X b 2) w7) (.slice a6 l6.length c6) x.natAbs := ⟨a6, c6, l6, rfl, h61, h62.2, h63.mono (NatIn.mono _) (le_store r2 (by omega) (by omega))⟩
  have hfin : Hid (sg (!s6) x.natAbs = -x) := hid (by
    have e1 := hsz.out
    rw [← e1, sg_abs]; unfold sg; cases s6 <;> simp)
  refine (isigned (hidB X b 2) w7 (!s6) _ _ hX7 hn).mono ?_
  rintro e w8 ⟨hE8, u8, rfl, s8, a8, c8, l8, rfl, h81, h82, h83⟩
  rw [hfin.out] at h82
  have bb4 := bb3.ext0 hE8
  clear k00 k01
  go_wp2_with ((with_reducible show wpList _ _ _ (⟨_, .store _ _ _, _, _, _, _⟩ :: _) _ _); refine st_storeBox stInt rfl rfl bb4 rfl rfl (one2 _ _ _ _) ?_; intro w9 q1 q2)
  have h7 := (h83.mono (NatIn.mono _) (le_store q2 (by omega) (by omega))).mono (NatIn.mono _) le_unbox
  exact bodyPost_ret (results_box rfl rfl stInt q1 rfl) rfl ⟨ExtX.box ((ExtX.box (hE.trans (hE5.trans hE6)) r2 (by omega)).trans hE8) q2 (by omega), _, rfl, s8, a8, c8, l8, rfl, h81, h82, h7⟩

theorem isign (X : Nat → Bool) (w : World) (u : Value) (x : Int) (hX : HX X w) (hu : ZV (mk X w) u x) : Calls Tryz.prog 139 #[u] w (IntOut w x.sign) := by
  obtain ⟨s1, a1, c1, l1, rfl, hu'⟩ := id hu
  obtain ⟨W, hW, hE, b0, hz⟩ := boxes1 w #[.bool s1, .slice a1 l1.length c1] 29
  have hXW : HX (hidB X w.heap.size 1) W := hX.boxes hz
  have hu1 := ZV.mono _ _ _ _ (le_boxes (nb := 1) hE) hu
  obtain ⟨b, hb⟩ : ∃ b, w.heap.size = b := ⟨_, rfl⟩
  have hbw : w.heap.size ≤ b := by omega
  rw [hb] at b0 hz hXW hu1
  have k00 := b0.cell 0 rfl
  have k01 := b0.cell 1 rfl
  clear hu hu'
  go_enter Tryz.func139, Tryz.ntmps139
  go_wp2_with fail
  refine (ivalue (hidB X b 1) W _ x hXW hu1).mono ?_
  rintro e w5 ⟨hE5, u5, rfl, s6, a6, c6, l6, rfl, h61, h62, h63⟩
  have bb0 := b0.ext0 hE5
  have hl0 := hid h62.len0
  have hs6 := hid h62.1
  clear k00 k01 h62
  by_cases h0 : l6.length = 0
  · have hx0 : x = 0 := hl0.out.1 h0
    subst hx0
    have hI : ((l6.length : Int) == 0) = true := beqT (by omega)
    have hl6 : (l6.length : Int) = 0 := by omega
    clear hl0 hs6 h0
    go_wp2_with ((with_reducible show wpList _ _ _ (⟨_, .store _ _ _, _, _, _, _⟩ :: _) _ _); refine st_storeBox stInt rfl rfl bb0 rfl rfl (one2 _ _ _ _) ?_; intro w7 r1 r2; have k00 := r1.cell 0 rfl; have k01 := r1.cell 1 rfl)
    have hEf := ExtX.box (hE.trans hE5) r2 (by omega)
    go_ret
    exact ⟨hEf, rfl⟩
  · have hI : ((l6.length : Int) == 0) = false := beqF (by omega)
    have hx0 : ¬ x = 0 := fun h => h0 (hl0.out.2 h)
    by_cases hneg : x < 0
    · have hf : Hid (x.sign = -1) := hid (Int.sign_eq_neg_one_of_neg hneg)
      obtain rfl : s6 = true := by rw [hs6.out]; exact decide_eq_true hneg
      clear hl0 h0 hx0 hneg hs6
      go_wp2_with ((with_reducible show wpList _ _ _ (⟨_, .store _ _ _, _, _, _, _⟩ :: _) _ _); refine st_storeBox stInt rfl rfl bb0 rfl rfl (one2 _ _ _ _) ?_; intro w7 r1 r2; have k00 := r1.cell 0 rfl; have k01 := r1.cell 1 rfl)
      have hEf := ExtX.box (hE.trans hE5) r2 (by omega)
      go_ret
      exact ⟨hEf, ret_int hf.out.symm⟩
    · have hf : Hid (x.sign = 1) := hid (Int.sign_eq_one_of_pos (by omega))
      obtain rfl : s6 = false := by rw [hs6.out]; exact decide_eq_false hneg
      clear hl0 h0 hx0 hneg hs6
      go_wp2_with ((with_reducible show wpList _ _ _ (⟨_, .store _ _ _, _, _, _, _⟩ :: _) _ _); refine st_storeBox stInt rfl rfl bb0 rfl rfl (one2 _ _ _ _) ?_; intro w7 r1 r2; have k00 := r1.cell 0 rfl; have k01 := r1.cell 1 rfl)
      have hEf := ExtX.box (hE.trans hE5) r2 (by omega)
      go_ret
      exact ⟨hEf, ret_int hf.out.symm⟩
end Go.Proofs.YtjbhcniiioepgaaGreat

namespace Go.Proofs.YtjbhcniiioepgaaGreat
open Go.RowKit Go.Rep Go.Lim

set_option maxRecDepth 100000 in
set_option maxHeartbeats 800000 in
theorem rimul (X : Nat → Bool) (w : World) (u v : Value) (x y : Int) (hX : HX X w) (hu : ZV (mk X w) u x) (hv : ZV (mk X w) v y) (hbx : lg x.natAbs ≤ 274877906944) (hby : lg y.natAbs ≤ 274877906944) : Calls Tryz.prog 114 #[u, v] w (ROut X w ZC (x * y)) := by
  have hbx' := hid hbx
  have hby' := hid hby
  clear hbx hby
  have hlx := hid hu.lg
  have hly := hid hv.lg
  obtain ⟨s1, a1, c1, l1, rfl, hu'⟩ := id hu
  obtain ⟨s2, a2, c2, l2, rfl, hv'⟩ := id hv
  obtain ⟨W, hW, hE, b0, b1, b2, hz⟩ := boxes3 w #[.bool s1, .slice a1 l1.length c1] #[.bool s2, .slice a2 l2.length c2] #[.bool false, .slice none 0 0] 29 29 29
  have hXW : HX (hidB X w.heap.size 3) W := hX.boxes hz
  have hu1 := ZV.mono _ _ _ _ (le_boxes (nb := 3) hE) hu
  have hv1 := ZV.mono _ _ _ _ (le_boxes (nb := 3) hE) hv
  obtain ⟨b, hb⟩ : ∃ b, w.heap.size = b := ⟨_, rfl⟩
  have hbw : w.heap.size ≤ b := by omega
  rw [hb] at b0 b1 b2 hz hXW hu1 hv1
  have hEd : Ext W W.drew := (ExtX.refl W).drew
  have hXd : HX (hidB X b 3) W.drew := hXW
  have hud : ZV (mk (hidB X b 3) W.drew) (.agg #[.bool s1, .slice a1 l1.length c1]) x := hu1
  have hvd : ZV (mk (hidB X b 3) W.drew) (.agg #[.bool s2, .slice a2 l2.length c2]) y := hv1
  have k00 := b0.cell 0 rfl
  have k01 := b0.cell 1 rfl
  have k10 := b1.cell 0 rfl
  have k11 := b1.cell 1 rfl
  clear hu hv hu' hv'
  go_enter Tryz.func114, Tryz.ntmps114
  go_upto_region 1 with (fail)
  go_cut [] from 5 to 8 (fun wx => ∃ s3 a3 c3 l3 s4 a4 c4 l4, Bx wx b #[.bool s3, .slice a3 l3 c3] 29 ∧ Bx wx (b + 1) #[.bool s4, .slice a4 l4 c4] 29 ∧ Bx wx (b + 1 + 1) #[.bool false, .slice none 0 0] 29 ∧ ZC (mk (hidB X b 3) wx) (.agg #[.bool s3, .slice a3 l3 c3]) x ∧ ZC (mk (hidB X b 3) wx) (.agg #[.bool s4, .slice a4 l4 c4]) y ∧ Ext w wx)
  case first =>
    go_region_with (first | (go_at_call 133; (with_reducible refine (ritake (hidB X b 3) W.drew _ x hXd hud).mono ?_); rintro e w5 ⟨hE5, u5, rfl, s5, a5, c5, l5, rfl, h51, h52, h53⟩; have bb0 := b0.ext0 (hEd.trans hE5); have bb1 := b1.ext0 (hEd.trans hE5); have e00 := bb0.cell 0 rfl; have e01 := bb0.cell 1 rfl; have e10 := bb1.cell 0 rfl; have e11 := bb1.cell 1 rfl) | (go_at_call 133; (with_reducible refine (ritake (hidB X b 3) w5 _ y (HX.ext hXd hE5) (mkx ZV.mono hvd hE5)).mono ?_); rintro e w6 ⟨hE6, u6, rfl, s6, a6, c6, l6, rfl, h61, h62, h63⟩; have bb2 := bb0.ext0 hE6; have bb3 := bb1.ext0 hE6; have g00 := bb2.cell 0 rfl; have g01 := bb2.cell 1 rfl; have g10 := bb3.cell 0 rfl; have g11 := bb3.cell 1 rfl; have fr0 := bb2.frozen 0; have fr1 := bb2.frozen 1; have fr2 := bb3.frozen 0; have fr3 := bb3.frozen 1))
    all_goals
      obtain ⟨wf, hwf, q0, q1, q2, q3, q4⟩ := two_stores (X := X) (nb := 3) bb2 bb3 (hE.trans ((hEd.trans hE5).trans hE6)) hbw (by omega) (.bool s5) (.slice a5 l5.length c5) (.bool s6) (.slice a6 l6.length c6)
      rw [hwf]
      have hfx : ZC (mk (hidB X b 3) wf) (.agg #[.bool s5, .slice a5 l5.length c5]) x := ⟨s5, a5, c5, l5, rfl, h51, h52, (h53.mono (NatIn.mono _) (mk_ext hE6)).mono (NatIn.mono _) q4⟩
      have hfy : ZC (mk (hidB X b 3) wf) (.agg #[.bool s6, .slice a6 l6.length c6]) y := ⟨s6, a6, c6, l6, rfl, h61, h62, h63.mono (NatIn.mono _) q4⟩
      have q5 := q2 (b + 1 + 1) _ _ (by omega) (by omega) ((b2.ext0 (hEd.trans hE5)).ext0 hE6)
      clear e00 e01 e10 e11 g00 g01 g10 g11 fr0 fr1 fr2 fr3 k00 k01 k10 k11 hwf
      go_wp2_with fail
      go_meet
      exact ⟨_, _, _, _, _, _, _, _, q0, q1, q5, hfx, hfy, q3⟩
  case rest =>
    clear k00 k01 k10 k11 b0 b1 b2 hu1 hv1 hud hvd hXd hEd hW
    obtain ⟨s3, a3, c3, n3, s4, a4, c4, n4, b0, b1, b2, hx, hy, hE1⟩ := hcut
    obtain ⟨_, _, _, l3, heq, h31, h32, h33⟩ := hx
    simp only [Value.agg.injEq, Array.mk.injEq, List.cons.injEq, Value.bool.injEq, Value.slice.injEq, and_true] at heq
    obtain ⟨rfl, rfl, rfl, rfl⟩ := heq
    obtain ⟨_, _, _, l4, heq, h41, h42, h43⟩ := hy
    simp only [Value.agg.injEq, Array.mk.injEq, List.cons.injEq, Value.bool.injEq, Value.slice.injEq, and_true] at heq
    obtain ⟨rfl, rfl, rfl, rfl⟩ := heq
    have hlz := hid (sg_of h32)
    have hlw := hid (sg_of h42)
    have hsx := hid h32.1
    have hsy := hid h42.1
    have hEd : Ext wc wc.drew := (ExtX.refl wc).drew
    have hnx : NV (mk (hidB X b 3) wc) (.slice a3 l3.length c3) x.natAbs := NC.nv ⟨a3, c3, l3, rfl, h31, h32.2, h33⟩ (by have := hlx.out; omega)
    have hny : NV (mk (hidB X b 3) wc) (.slice a4 l4.length c4) y.natAbs := NC.nv ⟨a4, c4, l4, rfl, h41, h42.2, h43⟩ (by have := hly.out; omega)
    have hzz : w.heap.size + 3 ≤ wc.heap.size := by have := b2.lt; omega
    have hXc : HX (hidB X b 3) wc := hX.boxes' hE1 (by omega) hzz
    have hB := hid (And.intro b0 (And.intro b1 b2))
    have k00 := b0.cell 0 rfl
    have k01 := b0.cell 1 rfl
    have k10 := b1.cell 0 rfl
    have k11 := b1.cell 1 rfl
    have hn1 : b + 1 ≠ b + 1 + 1 := by omega
    have hn2 : b ≠ b + 1 + 1 := by omega
    obtain ⟨sn, hsn⟩ : ∃ sn, (s3 != s4) = sn := ⟨_, rfl⟩
    have hfin : Hid (sg sn (x.natAbs * y.natAbs) = x * y) := hid (by
      have e1 := hlz.out; have e2 := hlw.out
      rw [← hsn, ← e1, ← e2, sg_abs, sg_abs]
      unfold sg
      cases s3 <;> cases s4 <;> simp [Int.natCast_mul, Int.neg_mul, Int.mul_neg])
    have hsn' := hid hsn
    clear hsx hsy hlz hlw hsn h32 h42
    cases s3 <;> cases s4
    · obtain rfl : sn = false := hsn'.out.symm
      clear hsn'
      go_wp2_with fail
      go_region_held3 (fun w' => w'.cell? ⟨b, 0, none⟩ = some (.bool false) ∧ w'.cell? ⟨b, 1, none⟩ = some (.slice a3 l3.length c3) ∧ w'.cell? ⟨b + 1, 0, none⟩ = some (.bool false) ∧ w'.cell? ⟨b + 1, 1, none⟩ = some (.slice a4 l4.length c4))
        (first | exact ⟨(hB.out.1.ext0 (hEd.trans hE5)).cell 0 rfl, (hB.out.1.ext0 (hEd.trans hE5)).cell 1 rfl, (hB.out.2.1.ext0 (hEd.trans hE5)).cell 0 rfl, (hB.out.2.1.ext0 (hEd.trans hE5)).cell 1 rfl⟩ | exact ⟨(hB.out.1.ext0 (hEd.trans (hE5.trans hE6))).cell 0 rfl, (hB.out.1.ext0 (hEd.trans (hE5.trans hE6))).cell 1 rfl, (hB.out.2.1.ext0 (hEd.trans (hE5.trans hE6))).cell 0 rfl, (hB.out.2.1.ext0 (hEd.trans (hE5.trans hE6))).cell 1 rfl⟩ | exact ⟨((hB.out.1.ext0 (hEd.trans (hE5.trans hE6))).ext (bb2.set2 _ _).2 (ob_other (by omega))).cell 0 rfl, ((hB.out.1.ext0 (hEd.trans (hE5.trans hE6))).ext (bb2.set2 _ _).2 (ob_other (by omega))).cell 1 rfl, ((hB.out.2.1.ext0 (hEd.trans (hE5.trans hE6))).ext (bb2.set2 _ _).2 (ob_other (by omega))).cell 0 rfl, ((hB.out.2.1.ext0 (hEd.trans (hE5.trans hE6))).ext (bb2.set2 _ _).2 (ob_other (by omega))).cell 1 rfl⟩ | go_keep)
        (first | (go_at_call 170; refine (rnmul (hidB X b 3) wc.drew _ _ _ _ hXc hnx hny hbx'.out hby'.out).mono ?_; rintro e w5 ⟨hE5, u5, rfl, hu5⟩) | (go_at_call 169; refine (risigned (hidB X b 3) w5 false u5 (x.natAbs * y.natAbs) (HX.ext (w := wc.drew) hXc hE5) hu5).mono ?_; rintro e w6 ⟨hE6, u6, rfl, s6, a6, c6, l6, rfl, h61, h62, h63⟩; have bb2 := hB.out.2.2.ext0 (hEd.trans (hE5.trans hE6)); have g1 := bb2.cell 0 rfl; have g2 := bb2.cell 1 rfl; have g3 := bb2.frozen 0; have g4 := bb2.frozen 1))
      obtain ⟨r1, r2⟩ := bb2.set2 (.bool s6) (.slice a6 l6.length c6)
      have h7 := (h63.mono (NatIn.mono _) (le_store r2 (by omega) (by omega))).mono (NatIn.mono _) le_unbox
      rw [hfin.out] at h62
      have hEf : Ext w _ := ExtX.box (hE1.trans (hEd.trans (hE5.trans hE6))) r2 (by omega)
      clear g1 g2 g3 g4 k00 k01 k10 k11
      go_wp2_with fail
      exact bodyPost_ret (results_box rfl rfl stInt r1 rfl) rfl ⟨hEf, _, rfl, s6, a6, c6, l6, rfl, h61, h62, h7⟩
    · obtain rfl : sn = true := hsn'.out.symm
      clear hsn'
      go_wp2_with fail
      go_region_held3 (fun w' => w'.cell? ⟨b, 0, none⟩ = some (.bool false) ∧ w'.cell? ⟨b, 1, none⟩ = some (.slice a3 l3.length c3) ∧ w'.cell? ⟨b + 1, 0, none⟩ = some (.bool true) ∧ w'.cell? ⟨b + 1, 1, none⟩ = some (.slice a4 l4.length c4))
        (first | exact ⟨(hB.out.1.ext0 (hEd.trans hE5)).cell 0 rfl, (hB.out.1.ext0 (hEd.trans hE5)).cell 1 rfl, (hB.out.2.1.ext0 (hEd.trans hE5)).cell 0 rfl, (hB.out.2.1.ext0 (hEd.trans hE5)).cell 1 rfl⟩ | exact ⟨(hB.out.1.ext0 (hEd.trans (hE5.trans hE6))).cell 0 rfl, (hB.out.1.ext0 (hEd.trans (hE5.trans hE6))).cell 1 rfl, (hB.out.2.1.ext0 (hEd.trans (hE5.trans hE6))).cell 0 rfl, (hB.out.2.1.ext0 (hEd.trans (hE5.trans hE6))).cell 1 rfl⟩ | exact ⟨((hB.out.1.ext0 (hEd.trans (hE5.trans hE6))).ext (bb2.set2 _ _).2 (ob_other (by omega))).cell 0 rfl, ((hB.out.1.ext0 (hEd.trans (hE5.trans hE6))).ext (bb2.set2 _ _).2 (ob_other (by omega))).cell 1 rfl, ((hB.out.2.1.ext0 (hEd.trans (hE5.trans hE6))).ext (bb2.set2 _ _).2 (ob_other (by omega))).cell 0 rfl, ((hB.out.2.1.ext0 (hEd.trans (hE5.trans hE6))).ext (bb2.set2 _ _).2 (ob_other (by omega))).cell 1 rfl⟩ | go_keep)
        (first | (go_at_call 170; refine (rnmul (hidB X b 3) wc.drew _ _ _ _ hXc hnx hny hbx'.out hby'.out).mono ?_; rintro e w5 ⟨hE5, u5, rfl, hu5⟩) | (go_at_call 169; refine (risigned (hidB X b 3) w5 true u5 (x.natAbs * y.natAbs) (HX.ext (w := wc.drew) hXc hE5) hu5).mono ?_; rintro e w6 ⟨hE6, u6, rfl, s6, a6, c6, l6, rfl, h61, h62, h63⟩; have bb2 := hB.out.2.2.ext0 (hEd.trans (hE5.trans hE6)); have g1 := bb2.cell 0 rfl; have g2 := bb2.cell 1 rfl; have g3 := bb2.frozen 0; have g4 := bb2.frozen 1))
      obtain ⟨r1, r2⟩ := bb2.set2 (.bool s6) (.slice a6 l6.length c6)
      have h7 := (h63.mono (NatIn.mono _) (le_store r2 (by omega) (by omega))).mono (NatIn.mono _) le_unbox
      rw [hfin.out] at h62
      have hEf : Ext w _ := ExtX.box (hE1.trans (hEd.trans (hE5.trans hE6))) r2 (by omega)
      clear g1 g2 g3 g4 k00 k01 k10 k11
      go_wp2_with fail
      exact bodyPost_ret (results_box rfl rfl stInt r1 rfl) rfl ⟨hEf, _, rfl, s6, a6, c6, l6, rfl, h61, h62, h7⟩
    · obtain rfl : sn = true := hsn'.out.symm
      clear hsn'
      go_wp2_with fail
      go_region_held3 (fun w' => w'.cell? ⟨b, 0, none⟩ = some (.bool true) ∧ w'.cell? ⟨b, 1, none⟩ = some (.slice a3 l3.length c3) ∧ w'.cell? ⟨b + 1, 0, none⟩ = some (.bool false) ∧ w'.cell? ⟨b + 1, 1, none⟩ = some (.slice a4 l4.length c4))
        (first | exact ⟨(hB.out.1.ext0 (hEd.trans hE5)).cell 0 rfl, (hB.out.1.ext0 (hEd.trans hE5)).cell 1 rfl, (hB.out.2.1.ext0 (hEd.trans hE5)).cell 0 rfl, (hB.out.2.1.ext0 (hEd.trans hE5)).cell 1 rfl⟩ | exact ⟨(hB.out.1.ext0 (hEd.trans (hE5.trans hE6))).cell 0 rfl, (hB.out.1.ext0 (hEd.trans (hE5.trans hE6))).cell 1 rfl, (hB.out.2.1.ext0 (hEd.trans (hE5.trans hE6))).cell 0 rfl, (hB.out.2.1.ext0 (hEd.trans (hE5.trans hE6))).cell 1 rfl⟩ | exact ⟨((hB.out.1.ext0 (hEd.trans (hE5.trans hE6))).ext (bb2.set2 _ _).2 (ob_other (by omega))).cell 0 rfl, ((hB.out.1.ext0 (hEd.trans (hE5.trans hE6))).ext (bb2.set2 _ _).2 (ob_other (by omega))).cell 1 rfl, ((hB.out.2.1.ext0 (hEd.trans (hE5.trans hE6))).ext (bb2.set2 _ _).2 (ob_other (by omega))).cell 0 rfl, ((hB.out.2.1.ext0 (hEd.trans (hE5.trans hE6))).ext (bb2.set2 _ _).2 (ob_other (by omega))).cell 1 rfl⟩ | go_keep)
        (first | (go_at_call 170; refine (rnmul (hidB X b 3) wc.drew _ _ _ _ hXc hnx hny hbx'.out hby'.out).mono ?_; rintro e w5 ⟨hE5, u5, rfl, hu5⟩) | (go_at_call 169; refine (risigned (hidB X b 3) w5 true u5 (x.natAbs * y.natAbs) (HX.ext (w := wc.drew) hXc hE5) hu5).mono ?_; rintro e w6 ⟨hE6, u6, rfl, s6, a6, c6, l6, rfl, h61, h62, h63⟩; have bb2 := hB.out.2.2.ext0 (hEd.trans (hE5.trans hE6)); have g1 := bb2.cell 0 rfl; have g2 := bb2.cell 1 rfl; have g3 := bb2.frozen 0; have g4 := bb2.frozen 1))
      obtain ⟨r1, r2⟩ := bb2.set2 (.bool s6) (.slice a6 l6.length c6)
      have h7 := (h63.mono (NatIn.mono _) (le_store r2 (by omega) (by omega))).mono (NatIn.mono _) le_unbox
      rw [hfin.out] at h62
      have hEf : Ext w _ := ExtX.box (hE1.trans (hEd.trans (hE5.trans hE6))) r2 (by omega)
      clear g1 g2 g3 g4 k00 k01 k10 k11
      go_wp2_with fail
      exact bodyPost_ret (results_box rfl rfl stInt r1 rfl) rfl ⟨hEf, _, rfl, s6, a6, c6, l6, rfl, h61, h62, h7⟩
    · obtain rfl : sn = false := hsn'.out.symm
      clear hsn'
      go_wp2_with fail
      go_region_held3 (fun w' => w'.cell? ⟨b, 0, none⟩ = some (.bool true) ∧ w'.cell? ⟨b, 1, none⟩ = some (.slice a3 l3.length c3) ∧ w'.cell? ⟨b + 1, 0, none⟩ = some (.bool true) ∧ w'.cell? ⟨b + 1, 1, none⟩ = some (.slice a4 l4.length c4))
        (first | exact ⟨(hB.out.1.ext0 (hEd.trans hE5)).cell 0 rfl, (hB.out.1.ext0 (hEd.trans hE5)).cell 1 rfl, (hB.out.2.1.ext0 (hEd.trans hE5)).cell 0 rfl, (hB.out.2.1.ext0 (hEd.trans hE5)).cell 1 rfl⟩ | exact ⟨(hB.out.1.ext0 (hEd.trans (hE5.trans hE6))).cell 0 rfl, (hB.out.1.ext0 (hEd.trans (hE5.trans hE6))).cell 1 rfl, (hB.out.2.1.ext0 (hEd.trans (hE5.trans hE6))).cell 0 rfl, (hB.out.2.1.ext0 (hEd.trans (hE5.trans hE6))).cell 1 rfl⟩ | exact ⟨((hB.out.1.ext0 (hEd.trans (hE5.trans hE6))).ext (bb2.set2 _ _).2 (ob_other (by omega))).cell 0 rfl, ((hB.out.1.ext0 (hEd.trans (hE5.trans hE6))).ext (bb2.set2 _ _).2 (ob_other (by omega))).cell 1 rfl, ((hB.out.2.1.ext0 (hEd.trans (hE5.trans hE6))).ext (bb2.set2 _ _).2 (ob_other (by omega))).cell 0 rfl, ((hB.out.2.1.ext0 (hEd.trans (hE5.trans hE6))).ext (bb2.set2 _ _).2 (ob_other (by omega))).cell 1 rfl⟩ | go_keep)
        (first | (go_at_call 170; refine (rnmul (hidB X b 3) wc.drew _ _ _ _ hXc hnx hny hbx'.out hby'.out).mono ?_; rintro e w5 ⟨hE5, u5, rfl, hu5⟩) | (go_at_call 169; refine (risigned (hidB X b 3) w5 false u5 (x.natAbs * y.natAbs) (HX.ext (w := wc.drew) hXc hE5) hu5).mono ?_; rintro e w6 ⟨hE6, u6, rfl, s6, a6, c6, l6, rfl, h61, h62, h63⟩; have bb2 := hB.out.2.2.ext0 (hEd.trans (hE5.trans hE6)); have g1 := bb2.cell 0 rfl; have g2 := bb2.cell 1 rfl; have g3 := bb2.frozen 0; have g4 := bb2.frozen 1))
      obtain ⟨r1, r2⟩ := bb2.set2 (.bool s6) (.slice a6 l6.length c6)
      have h7 := (h63.mono (NatIn.mono _) (le_store r2 (by omega) (by omega))).mono (NatIn.mono _) le_unbox
      rw [hfin.out] at h62
      have hEf : Ext w _ := ExtX.box (hE1.trans (hEd.trans (hE5.trans hE6))) r2 (by omega)
      clear g1 g2 g3 g4 k00 k01 k10 k11
      go_wp2_with fail
      exact bodyPost_ret (results_box rfl rfl stInt r1 rfl) rfl ⟨hEf, _, rfl, s6, a6, c6, l6, rfl, h61, h62, h7⟩

end Go.Proofs.YtjbhcniiioepgaaGreat
