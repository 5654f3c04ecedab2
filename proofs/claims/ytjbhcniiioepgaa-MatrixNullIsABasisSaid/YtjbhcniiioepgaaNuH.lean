/- integer.Add, Mul, Neg, Sign, FromInt, Compare. Conditions: at most 2^39 digits. The reference's integers: Add. Conditions: at most 2^39 digits. integer.Mul, Neg, Sign, FromInt. Conditions: at most 2^39 digits. The reference's integers: Mul, Neg, Sign, FromInt. Conditions: at most 2^39 digits. The reference's integers: Neg, Sign, FromInt, Same, Gcd. Conditions: at most 2^39 digits. The reference's integers: Div, where it leaves no remainder. Conditions: at most 2^38 digits. integer.FromInt, Compare. Conditions: at most 2^39 digits. -/
import Derived.Test.YtjbhcniiioepgaaNuG
namespace Go.Proofs.Ytjbhcniiioepgaa
open Go.RowKit Go.Rep Go.Lim

set_option maxRecDepth 100000 in
set_option maxHeartbeats 800000 in
theorem iadd (X : Nat → Bool) (w : World) (u v : Value) (x y : Int) (hX : HX X w) (hu : ZV (mk X w) u x) (hv : ZV (mk X w) v y) : Calls Try.prog 55 #[u, v] w (ROut X w ZC (x + y)) := by
  have hlx := hid hu.lg
  have hly := hid hv.lg
  obtain ⟨s1, a1, c1, l1, rfl, hu'⟩ := id hu
  obtain ⟨s2, a2, c2, l2, rfl, hv'⟩ := id hv
  obtain ⟨W, hW, hE, b0, b1, b2, hz⟩ := boxes3 w #[.bool s1, .slice a1 l1.length c1] #[.bool s2, .slice a2 l2.length c2] #[.bool false, .slice none 0 0] 38 38 38
  have hXW : HX (hidB X w.heap.size 3) W := hX.boxes hz
  have hu1 := ZV.mono _ _ _ _ (le_boxes (nb := 3) hE) hu
  have hv1 := ZV.mono _ _ _ _ (le_boxes (nb := 3) hE) hv
  obtain ⟨b, hb⟩ : ∃ b, w.heap.size = b := ⟨_, rfl⟩
  have hbw : w.heap.size ≤ b := by omega
  rw [hb] at b0 b1 b2 hz hXW hu1 hv1
  have hEd : Ext W W.drew := (ExtX.refl W).drew
  have hXd : HX (hidB X b 3) W.drew := hXW
  have hud : ZV (mk (hidB X b 3) W.drew) (.agg #[.bool s1, .slice a1 l1.length c1]) x := hu1
  have hvd : ZV (mk (hidB X b 3) W.drew) (.agg #[.bool s2, .slice a2 l2.length c2]) y := hv1
  have k00 := b0.cell 0 rfl
  have k01 := b0.cell 1 rfl
  have k10 := b1.cell 0 rfl
  have k11 := b1.cell 1 rfl
  clear hu hv hu' hv'
  go_enter Try.func55, Try.ntmps55
  go_upto_region 1 with (fail)
  go_cut [] from 9 to 12 (fun wx => ∃ s3 a3 c3 l3 s4 a4 c4 l4, Bx wx b #[.bool s3, .slice a3 l3 c3] 38 ∧ Bx wx (b + 1) #[.bool s4, .slice a4 l4 c4] 38 ∧ Bx wx (b + 1 + 1) #[.bool false, .slice none 0 0] 38 ∧ ZC (mk (hidB X b 3) wx) (.agg #[.bool s3, .slice a3 l3 c3]) x ∧ ZC (mk (hidB X b 3) wx) (.agg #[.bool s4, .slice a4 l4 c4]) y ∧ Ext w wx)
  case first =>
    go_region_with (first | (go_at_call 49; (with_reducible refine (ivalue (hidB X b 3) W.drew _ x hXd hud).mono ?_); rintro e w5 ⟨hE5, u5, rfl, s5, a5, c5, l5, rfl, h51, h52, h53⟩; have bb0 := b0.ext0 (hEd.trans hE5); have bb1 := b1.ext0 (hEd.trans hE5); have e00 := bb0.cell 0 rfl; have e01 := bb0.cell 1 rfl; have e10 := bb1.cell 0 rfl; have e11 := bb1.cell 1 rfl) | (go_at_call 49; (with_reducible refine (ivalue (hidB X b 3) w5 _ y (HX.ext hXd hE5) (mkx ZV.mono hvd hE5)).mono ?_); rintro e w6 ⟨hE6, u6, rfl, s6, a6, c6, l6, rfl, h61, h62, h63⟩; have bb2 := bb0.ext0 hE6; have bb3 := bb1.ext0 hE6; have g00 := bb2.cell 0 rfl; have g01 := bb2.cell 1 rfl; have g10 := bb3.cell 0 rfl; have g11 := bb3.cell 1 rfl; have fr0 := bb2.frozen 0; have fr1 := bb2.frozen 1; have fr2 := bb3.frozen 0; have fr3 := bb3.frozen 1))
    all_goals
      obtain ⟨wf, hwf, q0, q1, q2, q3, q4⟩ := two_stores (X := X) (nb := 3) bb2 bb3 (hE.trans ((hEd.trans hE5).trans hE6)) hbw (by omega) (.bool s5) (.slice a5 l5.length c5) (.bool s6) (.slice a6 l6.length c6)
      rw [hwf]
      have hfx : ZC (mk (hidB X b 3) wf) (.agg #[.bool s5, .slice a5 l5.length c5]) x := ⟨s5, a5, c5, l5, rfl, h51, h52, (h53.mono (NatIn.mono _) (mk_ext hE6)).mono (NatIn.mono _) q4⟩
      have hfy : ZC (mk (hidB X b 3) wf) (.agg #[.bool s6, .slice a6 l6.length c6]) y := ⟨s6, a6, c6, l6, rfl, h61, h62, h63.mono (NatIn.mono _) q4⟩
      have q5 := q2 (b + 1 + 1) _ _ (by omega) (by omega) ((b2.ext0 (hEd.trans hE5)).ext0 hE6)
      clear e00 e01 e10 e11 g00 g01 g10 g11 fr0 fr1 fr2 fr3 k00 k01 k10 k11 hwf
      go_wp2_with fail
      go_meet
      exact ⟨_, _, _, _, _, _, _, _, q0, q1, q5, hfx, hfy, q3⟩
  case rest =>
    clear k00 k01 k10 k11 b0 b1 b2 hu1 hv1 hud hvd hXd hEd hW
    obtain ⟨s3, a3, c3, n3, s4, a4, c4, n4, b0, b1, b2, hx, hy, hE1⟩ := hcut
    obtain ⟨_, _, _, l3, heq, h31, h32, h33⟩ := hx
    simp only [Value.agg.injEq, Array.mk.injEq, List.cons.injEq, Value.bool.injEq, Value.slice.injEq, and_true] at heq
    obtain ⟨rfl, rfl, rfl, rfl⟩ := heq
    obtain ⟨_, _, _, l4, heq, h41, h42, h43⟩ := hy
    simp only [Value.agg.injEq, Array.mk.injEq, List.cons.injEq, Value.bool.injEq, Value.slice.injEq, and_true] at heq
    obtain ⟨rfl, rfl, rfl, rfl⟩ := heq
    have hnx : NV (mk (hidB X b 3) wc) (.slice a3 l3.length c3) x.natAbs := NC.nv ⟨a3, c3, l3, rfl, h31, h32.2, h33⟩ (by have := hlx.out; omega)
    have hny : NV (mk (hidB X b 3) wc) (.slice a4 l4.length c4) y.natAbs := NC.nv ⟨a4, c4, l4, rfl, h41, h42.2, h43⟩ (by have := hly.out; omega)
    have hsx := hid h32.1
    have hsy := hid h42.1
    have hzz : w.heap.size + 3 ≤ wc.heap.size := by have := b2.lt; omega
    have hXc : HX (hidB X b 3) wc := hX.boxes' hE1 (by omega) hzz
    have hB := hid (And.intro b0 (And.intro b1 b2))
    have k00 := b0.cell 0 rfl
    have k01 := b0.cell 1 rfl
    have k10 := b1.cell 0 rfl
    have k11 := b1.cell 1 rfl
    have hlz := hid (sg_of h32)
    have hlw := hid (sg_of h42)
    have hEd : Ext wc wc.drew := (ExtX.refl wc).drew
    have hn1 : b + 1 ≠ b + 1 + 1 := by omega
    have hn2 : b ≠ b + 1 + 1 := by omega
    by_cases hss : s3 = s4
    · subst hss
      have hfin : Hid (sg s3 (x.natAbs + y.natAbs) = x + y) := hid (by
        have e1 := hlz.out; have e2 := hlw.out
        unfold sg at *
        cases s3 <;> simp at * <;> omega)
      go_wp2_with fail
      go_region_held3 (fun w' => w'.cell? ⟨b, 0, none⟩ = some (.bool s3) ∧ w'.cell? ⟨b, 1, none⟩ = some (.slice a3 l3.length c3) ∧ w'.cell? ⟨b + 1, 1, none⟩ = some (.slice a4 l4.length c4))
        (first | exact ⟨(hB.out.1.ext0 (hEd.trans hE5)).cell 0 rfl, (hB.out.1.ext0 (hEd.trans hE5)).cell 1 rfl, (hB.out.2.1.ext0 (hEd.trans hE5)).cell 1 rfl⟩ | exact ⟨(hB.out.1.ext0 (hEd.trans (hE5.trans hE6))).cell 0 rfl, (hB.out.1.ext0 (hEd.trans (hE5.trans hE6))).cell 1 rfl, (hB.out.2.1.ext0 (hEd.trans (hE5.trans hE6))).cell 1 rfl⟩ | exact ⟨((hB.out.1.ext0 (hEd.trans (hE5.trans hE6))).ext (bb2.set2 _ _).2 (ob_other (by omega))).cell 0 rfl, ((hB.out.1.ext0 (hEd.trans (hE5.trans hE6))).ext (bb2.set2 _ _).2 (ob_other (by omega))).cell 1 rfl, ((hB.out.2.1.ext0 (hEd.trans (hE5.trans hE6))).ext (bb2.set2 _ _).2 (ob_other (by omega))).cell 1 rfl⟩ | go_keep)
        (first | (go_at_call 32; refine (nadd (X := hidB X b 3) (w := wc.drew) hXc hnx hny).mono ?_; rintro e w5 ⟨hE5, u5, rfl, hu5⟩) | (go_at_call 45; refine (isigned (hidB X b 3) w5 s3 u5 (x.natAbs + y.natAbs) (HX.ext (w := wc.drew) hXc hE5) hu5).mono ?_; rintro e w6 ⟨hE6, u6, rfl, s6, a6, c6, l6, rfl, h61, h62, h63⟩; have bb2 := hB.out.2.2.ext0 (hEd.trans (hE5.trans hE6)); have g1 := bb2.cell 0 rfl; have g2 := bb2.cell 1 rfl; have g3 := bb2.frozen 0; have g4 := bb2.frozen 1))
      obtain ⟨r1, r2⟩ := bb2.set2 (.bool s6) (.slice a6 l6.length c6)
      have h7 := (h63.mono (NatIn.mono _) (le_store r2 (by omega) (by omega))).mono (NatIn.mono _) le_unbox
      rw [hfin.out] at h62
      have hEf : Ext w _ := ExtX.box (hE1.trans (hEd.trans (hE5.trans hE6))) r2 (by omega)
      clear g1 g2 g3 g4 k00 k01 k10 k11
      go_wp2_with fail
      exact bodyPost_ret (results_box rfl rfl stInt r1 rfl) rfl ⟨hEf, _, rfl, s6, a6, c6, l6, rfl, h61, h62, h7⟩
    · have hne : (s3 == s4) = false := by simpa using hss
      have hfin1 : Hid (y.natAbs ≤ x.natAbs → sg s3 (x.natAbs - y.natAbs) = x + y) := hid (fun h => by
        have e1 := hlz.out; have e2 := hlw.out
        unfold sg at *
        cases s3 <;> cases s4 <;> simp at * <;> omega)
      have hfin2 : Hid (¬ y.natAbs ≤ x.natAbs → sg s4 (y.natAbs - x.natAbs) = x + y) := hid (fun h => by
        have e1 := hlz.out; have e2 := hlw.out
        unfold sg at *
        cases s3 <;> cases s4 <;> simp at * <;> omega)
      clear hss
      go_wp2_with fail
      refine (nsub hXc hnx hny).mono ?_
      rintro e w5 ⟨hE5, u5, rfl, hu5⟩
      have hX5 := hXc.ext hE5
      have bb0 := hB.out.1.ext0 hE5
      have bb1 := hB.out.2.1.ext0 hE5
      have bb2 := hB.out.2.2.ext0 hE5
      clear k00 k01 k10 k11
      have k00 := bb0.cell 0 rfl
      have k01 := bb0.cell 1 rfl
      have k10 := bb1.cell 0 rfl
      have k11 := bb1.cell 1 rfl
      by_cases hle : y.natAbs ≤ x.natAbs
      · have hd : decide (y.natAbs ≤ x.natAbs) = true := decide_eq_true hle
        have hf := hid (hfin1.out hle)
        rw [hd]
        clear hd hle
        go_wp2_with fail
        refine (isigned (hidB X b 3) w5 s3 u5 _ hX5 hu5).mono ?_
        rintro e w6 ⟨hE6, u6, rfl, s6, a6, c6, l6, rfl, h61, h62, h63⟩
        have bb3 := bb2.ext0 hE6
        clear k00 k01 k10 k11
        go_wp2_with ((with_reducible show wpList _ _ _ (⟨_, .store _ _ _, _, _, _, _⟩ :: _) _ _); refine st_storeBox stInt rfl rfl bb3 rfl rfl (one2 _ _ _ _) ?_; intro w7 r1 r2)
        have h7 := (h63.mono (NatIn.mono _) (le_store r2 (by omega) (by omega))).mono (NatIn.mono _) le_unbox
        rw [hf.out] at h62
        exact bodyPost_ret (results_box rfl rfl stInt r1 rfl) rfl ⟨ExtX.box (hE1.trans (hE5.trans hE6)) r2 (by omega), _, rfl, s6, a6, c6, l6, rfl, h61, h62, h7⟩
      · have hd : decide (y.natAbs ≤ x.natAbs) = false := decide_eq_false hle
        have hf := hid (hfin2.out hle)
        rw [hd]
        clear hd hle
        go_wp2_with fail
        refine (nsub hX5 (mkx NV.mono hny hE5) (mkx NV.mono hnx hE5)).mono ?_
        rintro e w6 ⟨hE6, v5, rfl, hv5⟩
        have bc0 := bb0.ext0 hE6
        have bc1 := bb1.ext0 hE6
        have bc2 := bb2.ext0 hE6
        clear k00 k01 k10 k11
        have k10 := bc1.cell 0 rfl
        have k11 := bc1.cell 1 rfl
        go_wp2_with fail
        refine (isigned (hidB X b 3) w6 s4 v5 _ (hX5.ext hE6) hv5).mono ?_
        rintro e w7 ⟨hE7, u6, rfl, s6, a6, c6, l6, rfl, h61, h62, h63⟩
        have bb3 := bc2.ext0 hE7
        clear k10 k11
        go_wp2_with ((with_reducible show wpList _ _ _ (⟨_, .store _ _ _, _, _, _, _⟩ :: _) _ _); refine st_storeBox stInt rfl rfl bb3 rfl rfl (one2 _ _ _ _) ?_; intro w8 r1 r2)
        have h7 := (h63.mono (NatIn.mono _) (le_store r2 (by omega) (by omega))).mono (NatIn.mono _) le_unbox
        rw [hf.out] at h62
        exact bodyPost_ret (results_box rfl rfl stInt r1 rfl) rfl ⟨ExtX.box (hE1.trans (hE5.trans (hE6.trans hE7))) r2 (by omega), _, rfl, s6, a6, c6, l6, rfl, h61, h62, h7⟩
end Go.Proofs.Ytjbhcniiioepgaa

namespace Go.Proofs.Ytjbhcniiioepgaa
open Go.RowKit Go.Rep Go.Lim

end Go.Proofs.Ytjbhcniiioepgaa

namespace Go.Proofs.Ytjbhcniiioepgaa
open Go.RowKit Go.Rep Go.Lim

set_option maxRecDepth 100000 in
set_option maxHeartbeats 800000 in
theorem imul (X : Nat → Bool) (w : World) (u v : Value) (x y : Int) (hX : HX X w) (hu : ZV (mk X w) u x) (hv : ZV (mk X w) v y) : Calls Try.prog 60 #[u, v] w (ROut X w ZC (x * y)) := by
  have hlx := hid hu.lg
  have hly := hid hv.lg
  obtain ⟨s1, a1, c1, l1, rfl, hu'⟩ := id hu
  obtain ⟨s2, a2, c2, l2, rfl, hv'⟩ := id hv
  obtain ⟨W, hW, hE, b0, b1, b2, hz⟩ := boxes3 w #[.bool s1, .slice a1 l1.length c1] #[.bool s2, .slice a2 l2.length c2] #[.bool false, .slice none 0 0] 38 38 38
  have hXW : HX (hidB X w.heap.size 3) W := hX.boxes hz
  have hu1 := ZV.mono _ _ _ _ (le_boxes (nb := 3) hE) hu
  have hv1 := ZV.mono _ _ _ _ (le_boxes (nb := 3) hE) hv
  obtain ⟨b, hb⟩ : ∃ b, w.heap.size = b := ⟨_, rfl⟩
  have hbw : w.heap.size ≤ b := by omega
  rw [hb] at b0 b1 b2 hz hXW hu1 hv1
  have hEd : Ext W W.drew := (ExtX.refl W).drew
  have hXd : HX (hidB X b 3) W.drew := hXW
  have hud : ZV (mk (hidB X b 3) W.drew) (.agg #[.bool s1, .slice a1 l1.length c1]) x := hu1
  have hvd : ZV (mk (hidB X b 3) W.drew) (.agg #[.bool s2, .slice a2 l2.length c2]) y := hv1
  have k00 := b0.cell 0 rfl
  have k01 := b0.cell 1 rfl
  have k10 := b1.cell 0 rfl
  have k11 := b1.cell 1 rfl
  clear hu hv hu' hv'
  go_enter Try.func60, Try.ntmps60
  go_upto_region 1 with (fail)
  go_cut [] from 5 to 8 (fun wx => ∃ s3 a3 c3 l3 s4 a4 c4 l4, Bx wx b #[.bool s3, .slice a3 l3 c3] 38 ∧ Bx wx (b + 1) #[.bool s4, .slice a4 l4 c4] 38 ∧ Bx wx (b + 1 + 1) #[.bool false, .slice none 0 0] 38 ∧ ZC (mk (hidB X b 3) wx) (.agg #[.bool s3, .slice a3 l3 c3]) x ∧ ZC (mk (hidB X b 3) wx) (.agg #[.bool s4, .slice a4 l4 c4]) y ∧ Ext w wx)
  case first =>
    go_region_with (first | (go_at_call 49; (with_reducible refine (ivalue (hidB X b 3) W.drew _ x hXd hud).mono ?_); rintro e w5 ⟨hE5, u5, rfl, s5, a5, c5, l5, rfl, h51, h52, h53⟩; have bb0 := b0.ext0 (hEd.trans hE5); have bb1 := b1.ext0 (hEd.trans hE5); have e00 := bb0.cell 0 rfl; have e01 := bb0.cell 1 rfl; have e10 := bb1.cell 0 rfl; have e11 := bb1.cell 1 rfl) | (go_at_call 49; (with_reducible refine (ivalue (hidB X b 3) w5 _ y (HX.ext hXd hE5) (mkx ZV.mono hvd hE5)).mono ?_); rintro e w6 ⟨hE6, u6, rfl, s6, a6, c6, l6, rfl, h61, h62, h63⟩; have bb2 := bb0.ext0 hE6; have bb3 := bb1.ext0 hE6; have g00 := bb2.cell 0 rfl; have g01 := bb2.cell 1 rfl; have g10 := bb3.cell 0 rfl; have g11 := bb3.cell 1 rfl; have fr0 := bb2.frozen 0; have fr1 := bb2.frozen 1; have fr2 := bb3.frozen 0; have fr3 := bb3.frozen 1))
    all_goals
      obtain ⟨wf, hwf, q0, q1, q2, q3, q4⟩ := two_stores (X := X) (nb := 3) bb2 bb3 (hE.trans ((hEd.trans hE5).trans hE6)) hbw (by omega) (.bool s5) (.slice a5 l5.length c5) (.bool s6) (.slice a6 l6.length c6)
      rw [hwf]
      have hfx : ZC (mk (hidB X b 3) wf) (.agg #[.bool s5, .slice a5 l5.length c5]) x := ⟨s5, a5, c5, l5, rfl, h51, h52, (h53.mono (NatIn.mono _) (mk_ext hE6)).mono (NatIn.mono _) q4⟩
      have hfy : ZC (mk (hidB X b 3) wf) (.agg #[.bool s6, .slice a6 l6.length c6]) y := ⟨s6, a6, c6, l6, rfl, h61, h62, h63.mono (NatIn.mono _) q4⟩
      have q5 := q2 (b + 1 + 1) _ _ (by omega) (by omega) ((b2.ext0 (hEd.trans hE5)).ext0 hE6)
      clear e00 e01 e10 e11 g00 g01 g10 g11 fr0 fr1 fr2 fr3 k00 k01 k10 k11 hwf
      go_wp2_with fail
      go_meet
      exact ⟨_, _, _, _, _, _, _, _, q0, q1, q5, hfx, hfy, q3⟩
  case rest =>
    clear k00 k01 k10 k11 b0 b1 b2 hu1 hv1 hud hvd hXd hEd hW
    obtain ⟨s3, a3, c3, n3, s4, a4, c4, n4, b0, b1, b2, hx, hy, hE1⟩ := hcut
    obtain ⟨_, _, _, l3, heq, h31, h32, h33⟩ := hx
    simp only [Value.agg.injEq, Array.mk.injEq, List.cons.injEq, Value.bool.injEq, Value.slice.injEq, and_true] at heq
    obtain ⟨rfl, rfl, rfl, rfl⟩ := heq
    obtain ⟨_, _, _, l4, heq, h41, h42, h43⟩ := hy
    simp only [Value.agg.injEq, Array.mk.injEq, List.cons.injEq, Value.bool.injEq, Value.slice.injEq, and_true] at heq
    obtain ⟨rfl, rfl, rfl, rfl⟩ := heq
    have hlz := hid (sg_of h32)
    have hlw := hid (sg_of h42)
    have hsx := hid h32.1
    have hsy := hid h42.1
    have hEd : Ext wc wc.drew := (ExtX.refl wc).drew
    have hnx : NV (mk (hidB X b 3) wc) (.slice a3 l3.length c3) x.natAbs := NC.nv ⟨a3, c3, l3, rfl, h31, h32.2, h33⟩ (by have := hlx.out; omega)
    have hny : NV (mk (hidB X b 3) wc) (.slice a4 l4.length c4) y.natAbs := NC.nv ⟨a4, c4, l4, rfl, h41, h42.2, h43⟩ (by have := hly.out; omega)
    have hzz : w.heap.size + 3 ≤ wc.heap.size := by have := b2.lt; omega
    have hXc : HX (hidB X b 3) wc := hX.boxes' hE1 (by omega) hzz
    have hB := hid (And.intro b0 (And.intro b1 b2))
    have k00 := b0.cell 0 rfl
    have k01 := b0.cell 1 rfl
    have k10 := b1.cell 0 rfl
    have k11 := b1.cell 1 rfl
    have hn1 : b + 1 ≠ b + 1 + 1 := by omega
    have hn2 : b ≠ b + 1 + 1 := by omega
    obtain ⟨sn, hsn⟩ : ∃ sn, (s3 != s4) = sn := ⟨_, rfl⟩
    have hfin : Hid (sg sn (x.natAbs * y.natAbs) = x * y) := hid (by
      have e1 := hlz.out; have e2 := hlw.out
      rw [← hsn, ← e1, ← e2, sg_abs, sg_abs]
      unfold sg
      cases s3 <;> cases s4 <;> simp [Int.natCast_mul, Int.neg_mul, Int.mul_neg])
    have hsn' := hid hsn
    clear hsx hsy hlz hlw hsn h32 h42
    cases s3 <;> cases s4
    · obtain rfl : sn = false := hsn'.out.symm
      clear hsn'
      go_wp2_with fail
      go_region_held3 (fun w' => w'.cell? ⟨b, 0, none⟩ = some (.bool false) ∧ w'.cell? ⟨b, 1, none⟩ = some (.slice a3 l3.length c3) ∧ w'.cell? ⟨b + 1, 0, none⟩ = some (.bool false) ∧ w'.cell? ⟨b + 1, 1, none⟩ = some (.slice a4 l4.length c4))
        (first | exact ⟨(hB.out.1.ext0 (hEd.trans hE5)).cell 0 rfl, (hB.out.1.ext0 (hEd.trans hE5)).cell 1 rfl, (hB.out.2.1.ext0 (hEd.trans hE5)).cell 0 rfl, (hB.out.2.1.ext0 (hEd.trans hE5)).cell 1 rfl⟩ | exact ⟨(hB.out.1.ext0 (hEd.trans (hE5.trans hE6))).cell 0 rfl, (hB.out.1.ext0 (hEd.trans (hE5.trans hE6))).cell 1 rfl, (hB.out.2.1.ext0 (hEd.trans (hE5.trans hE6))).cell 0 rfl, (hB.out.2.1.ext0 (hEd.trans (hE5.trans hE6))).cell 1 rfl⟩ | exact ⟨((hB.out.1.ext0 (hEd.trans (hE5.trans hE6))).ext (bb2.set2 _ _).2 (ob_other (by omega))).cell 0 rfl, ((hB.out.1.ext0 (hEd.trans (hE5.trans hE6))).ext (bb2.set2 _ _).2 (ob_other (by omega))).cell 1 rfl, ((hB.out.2.1.ext0 (hEd.trans (hE5.trans hE6))).ext (bb2.set2 _ _).2 (ob_other (by omega))).cell 0 rfl, ((hB.out.2.1.ext0 (hEd.trans (hE5.trans hE6))).ext (bb2.set2 _ _).2 (ob_other (by omega))).cell 1 rfl⟩ | go_keep)
        (first | (go_at_call 59; refine (nmul (X := hidB X b 3) (w := wc.drew) hXc hnx hny).mono ?_; rintro e w5 ⟨hE5, u5, rfl, hu5⟩) | (go_at_call 45; refine (isigned (hidB X b 3) w5 false u5 (x.natAbs * y.natAbs) (HX.ext (w := wc.drew) hXc hE5) hu5).mono ?_; rintro e w6 ⟨hE6, u6, rfl, s6, a6, c6, l6, rfl, h61, h62, h63⟩; have bb2 := hB.out.2.2.ext0 (hEd.trans (hE5.trans hE6)); have g1 := bb2.cell 0 rfl; have g2 := bb2.cell 1 rfl; have g3 := bb2.frozen 0; have g4 := bb2.frozen 1))
      obtain ⟨r1, r2⟩ := bb2.set2 (.bool s6) (.slice a6 l6.length c6)
      have h7 := (h63.mono (NatIn.mono _) (le_store r2 (by omega) (by omega))).mono (NatIn.mono _) le_unbox
      rw [hfin.out] at h62
      have hEf : Ext w _ := ExtX.box (hE1.trans (hEd.trans (hE5.trans hE6))) r2 (by omega)
      clear g1 g2 g3 g4 k00 k01 k10 k11
      go_wp2_with fail
      exact bodyPost_ret (results_box rfl rfl stInt r1 rfl) rfl ⟨hEf, _, rfl, s6, a6, c6, l6, rfl, h61, h62, h7⟩
    · obtain rfl : sn = true := hsn'.out.symm
      clear hsn'
      go_wp2_with fail
      go_region_held3 (fun w' => w'.cell? ⟨b, 0, none⟩ = some (.bool false) ∧ w'.cell? ⟨b, 1, none⟩ = some (.slice a3 l3.length c3) ∧ w'.cell? ⟨b + 1, 0, none⟩ = some (.bool true) ∧ w'.cell? ⟨b + 1, 1, none⟩ = some (.slice a4 l4.length c4))
        (first | exact ⟨(hB.out.1.ext0 (hEd.trans hE5)).cell 0 rfl, (hB.out.1.ext0 (hEd.trans hE5)).cell 1 rfl, (hB.out.2.1.ext0 (hEd.trans hE5)).cell 0 rfl, (hB.out.2.1.ext0 (hEd.trans hE5)).cell 1 rfl⟩ | exact ⟨(hB.out.1.ext0 (hEd.trans (hE5.trans hE6))).cell 0 rfl, (hB.out.1.ext0 (hEd.trans (hE5.trans hE6))).cell 1 rfl, (hB.out.2.1.ext0 (hEd.trans (hE5.trans hE6))).cell 0 rfl, (hB.out.2.1.ext0 (hEd.trans (hE5.trans hE6))).cell 1 rfl⟩ | exact ⟨((hB.out.1.ext0 (hEd.trans (hE5.trans hE6))).ext (bb2.set2 _ _).2 (ob_other (by omega))).cell 0 rfl, ((hB.out.1.ext0 (hEd.trans (hE5.trans hE6))).ext (bb2.set2 _ _).2 (ob_other (by omega))).cell 1 rfl, ((hB.out.2.1.ext0 (hEd.trans (hE5.trans hE6))).ext (bb2.set2 _ _).2 (ob_other (by omega))).cell 0 rfl, ((hB.out.2.1.ext0 (hEd.trans (hE5.trans hE6))).ext (bb2.set2 _ _).2 (ob_other (by omega))).cell 1 rfl⟩ | go_keep)
        (first | (go_at_call 59; refine (nmul (X := hidB X b 3) (w := wc.drew) hXc hnx hny).mono ?_; rintro e w5 ⟨hE5, u5, rfl, hu5⟩) | (go_at_call 45; refine (isigned (hidB X b 3) w5 true u5 (x.natAbs * y.natAbs) (HX.ext (w := wc.drew) hXc hE5) hu5).mono ?_; rintro e w6 ⟨hE6, u6, rfl, s6, a6, c6, l6, rfl, h61, h62, h63⟩; have bb2 := hB.out.2.2.ext0 (hEd.trans (hE5.trans hE6)); have g1 := bb2.cell 0 rfl; have g2 := bb2.cell 1 rfl; have g3 := bb2.frozen 0; have g4 := bb2.frozen 1))
      obtain ⟨r1, r2⟩ := bb2.set2 (.bool s6) (.slice a6 l6.length c6)
      have h7 := (h63.mono (NatIn.mono _) (le_store r2 (by omega) (by omega))).mono (NatIn.mono _) le_unbox
      rw [hfin.out] at h62
      have hEf : Ext w _ := ExtX.box (hE1.trans (hEd.trans (hE5.trans hE6))) r2 (by omega)
      clear g1 g2 g3 g4 k00 k01 k10 k11
      go_wp2_with fail
      exact bodyPost_ret (results_box rfl rfl stInt r1 rfl) rfl ⟨hEf, _, rfl, s6, a6, c6, l6, rfl, h61, h62, h7⟩
    · obtain rfl : sn = true := hsn'.out.symm
      clear hsn'
      go_wp2_with fail
      go_region_held3 (fun w' => w'.cell? ⟨b, 0, none⟩ = some (.bool true) ∧ w'.cell? ⟨b, 1, none⟩ = some (.slice a3 l3.length c3) ∧ w'.cell? ⟨b + 1, 0, none⟩ = some (.bool false) ∧ w'.cell? ⟨b + 1, 1, none⟩ = some (.slice a4 l4.length c4))
        (first | exact ⟨(hB.out.1.ext0 (hEd.trans hE5)).cell 0 rfl, (hB.out.1.ext0 (hEd.trans hE5)).cell 1 rfl, (hB.out.2.1.ext0 (hEd.trans hE5)).cell 0 rfl, (hB.out.2.1.ext0 (hEd.trans hE5)).cell 1 rfl⟩ | exact ⟨(hB.out.1.ext0 (hEd.trans (hE5.trans hE6))).cell 0 rfl, (hB.out.1.ext0 (hEd.trans (hE5.trans hE6))).cell 1 rfl, (hB.out.2.1.ext0 (hEd.trans (hE5.trans hE6))).cell 0 rfl, (hB.out.2.1.ext0 (hEd.trans (hE5.trans hE6))).cell 1 rfl⟩ | exact ⟨((hB.out.1.ext0 (hEd.trans (hE5.trans hE6))).ext (bb2.set2 _ _).2 (ob_other (by omega))).cell 0 rfl, ((hB.out.1.ext0 (hEd.trans (hE5.trans hE6))).ext (bb2.set2 _ _).2 (ob_other (by omega))).cell 1 rfl, ((hB.out.2.1.ext0 (hEd.trans (hE5.trans hE6))).ext (bb2.set2 _ _).2 (ob_other (by omega))).cell 0 rfl, ((hB.out.2.1.ext0 (hEd.trans (hE5.trans hE6))).ext (bb2.set2 _ _).2 (ob_other (by omega))).cell 1 rfl⟩ | go_keep)
        (first | (go_at_call 59; refine (nmul (X := hidB X b 3) (w := wc.drew) hXc hnx hny).mono ?_; rintro e w5 ⟨hE5, u5, rfl, hu5⟩) | (go_at_call 45; refine (isigned (hidB X b 3) w5 true u5 (x.natAbs * y.natAbs) (HX.ext (w := wc.drew) hXc hE5) hu5).mono ?_; rintro e w6 ⟨hE6, u6, rfl, s6, a6, c6, l6, rfl, h61, h62, h63⟩; have bb2 := hB.out.2.2.ext0 (hEd.trans (hE5.trans hE6)); have g1 := bb2.cell 0 rfl; have g2 := bb2.cell 1 rfl; have g3 := bb2.frozen 0; have g4 := bb2.frozen 1))
      obtain ⟨r1, r2⟩ := bb2.set2 (.bool s6) (.slice a6 l6.length c6)
      have h7 := (h63.mono (NatIn.mono _) (le_store r2 (by omega) (by omega))).mono (NatIn.mono _) le_unbox
      rw [hfin.out] at h62
      have hEf : Ext w _ := ExtX.box (hE1.trans (hEd.trans (hE5.trans hE6))) r2 (by omega)
      clear g1 g2 g3 g4 k00 k01 k10 k11
      go_wp2_with fail
      exact bodyPost_ret (results_box rfl rfl stInt r1 rfl) rfl ⟨hEf, _, rfl, s6, a6, c6, l6, rfl, h61, h62, h7⟩
    · obtain rfl : sn = false := hsn'.out.symm
      clear hsn'
      go_wp2_with fail
      go_region_held3 (fun w' => w'.cell? ⟨b, 0, none⟩ = some (.bool true) ∧ w'.cell? ⟨b, 1, none⟩ = some (.slice a3 l3.length c3) ∧ w'.cell? ⟨b + 1, 0, none⟩ = some (.bool true) ∧ w'.cell? ⟨b + 1, 1, none⟩ = some (.slice a4 l4.length c4))
        (first | exact ⟨(hB.out.1.ext0 (hEd.trans hE5)).cell 0 rfl, (hB.out.1.ext0 (hEd.trans hE5)).cell 1 rfl, (hB.out.2.1.ext0 (hEd.trans hE5)).cell 0 rfl, (hB.out.2.1.ext0 (hEd.trans hE5)).cell 1 rfl⟩ | exact ⟨(hB.out.1.ext0 (hEd.trans (hE5.trans hE6))).cell 0 rfl, (hB.out.1.ext0 (hEd.trans (hE5.trans hE6))).cell 1 rfl, (hB.out.2.1.ext0 (hEd.trans (hE5.trans hE6))).cell 0 rfl, (hB.out.2.1.ext0 (hEd.trans (hE5.trans hE6))).cell 1 rfl⟩ | exact ⟨((hB.out.1.ext0 (hEd.trans (hE5.trans hE6))).ext (bb2.set2 _ _).2 (ob_other (by omega))).cell 0 rfl, ((hB.out.1.ext0 (hEd.trans (hE5.trans hE6))).ext (bb2.set2 _ _).2 (ob_other (by omega))).cell 1 rfl, ((hB.out.2.1.ext0 (hEd.trans (hE5.trans hE6))).ext (bb2.set2 _ _).2 (ob_other (by omega))).cell 0 rfl, ((hB.out.2.1.ext0 (hEd.trans (hE5.trans hE6))).ext (bb2.set2 _ _).2 (ob_other (by omega))).cell 1 rfl⟩ | go_keep)
        (first | (go_at_call 59; refine (nmul (X := hidB X b 3) (w := wc.drew) hXc hnx hny).mono ?_; rintro e w5 ⟨hE5, u5, rfl, hu5⟩) | (go_at_call 45; refine (isigned (hidB X b 3) w5 false u5 (x.natAbs * y.natAbs) (HX.ext (w := wc.drew) hXc hE5) hu5).mono ?_; rintro e w6 ⟨hE6, u6, rfl, s6, a6, c6, l6, rfl, h61, h62, h63⟩; have bb2 := hB.out.2.2.ext0 (hEd.trans (hE5.trans hE6)); have g1 := bb2.cell 0 rfl; have g2 := bb2.cell 1 rfl; have g3 := bb2.frozen 0; have g4 := bb2.frozen 1))
      obtain ⟨r1, r2⟩ := bb2.set2 (.bool s6) (.slice a6 l6.length c6)
      have h7 := (h63.mono (NatIn.mono _) (le_store r2 (by omega) (by omega))).mono (NatIn.mono _) le_unbox
      rw [hfin.out] at h62
      have hEf : Ext w _ := ExtX.box (hE1.trans (hEd.trans (hE5.trans hE6))) r2 (by omega)
      clear g1 g2 g3 g4 k00 k01 k10 k11
      go_wp2_with fail
      exact bodyPost_ret (results_box rfl rfl stInt r1 rfl) rfl ⟨hEf, _, rfl, s6, a6, c6, l6, rfl, h61, h62, h7⟩

theorem ineg (X : Nat → Bool) (w : World) (u : Value) (x : Int) (hX : HX X w) (hu : ZV (mk X w) u x) : Calls Try.prog 31 #[u] w (ROut X w ZC (-x)) := by
  have hlx := hid hu.lg
  obtain ⟨s1, a1, c1, l1, rfl, hu'⟩ := id hu
  obtain ⟨W, hW, hE, b0, b1, hz⟩ := boxes2 w #[.bool s1, .slice a1 l1.length c1] #[.bool false, .slice none 0 0] 38 38
  have hXW : HX (hidB X w.heap.size 2) W := hX.boxes hz
  have hu1 := ZV.mono _ _ _ _ (le_boxes (nb := 2) hE) hu
  obtain ⟨b, hb⟩ : ∃ b, w.heap.size = b := ⟨_, rfl⟩
  have hbw : w.heap.size ≤ b := by omega
  rw [hb] at b0 b1 hz hXW hu1
  have k00 := b0.cell 0 rfl
  have k01 := b0.cell 1 rfl
  clear hu hu'
  go_enter Try.func31, Try.ntmps31
  go_wp2_with fail
  refine (ivalue (hidB X b 2) W _ x hXW hu1).mono ?_
  rintro e w5 ⟨hE5, u5, rfl, hu5⟩
  have hX5 := hXW.ext hE5
  clear k00 k01
  go_wp2_with fail
  refine (icopied (hidB X b 2) w5 _ x hX5 hu5 hlx.out).mono ?_
  rintro e w6 ⟨hE6, u6, rfl, s6, a6, c6, l6, rfl, h61, h62, h63⟩
  have bb0 := (b0.ext0 hE5).ext0 hE6
  have bb1 := (b1.ext0 hE5).ext0 hE6
  have hsz := hid (sg_of h62)
  go_wp2_with ((with_reducible show wpList _ _ _ (⟨_, .store _ _ _, _, _, _, _⟩ :: _) _ _); refine st_storeBox stInt rfl rfl bb0 rfl rfl (one2 _ _ _ _) ?_; intro w7 r1 r2; have k00 := r1.cell 0 rfl; have k01 := r1.cell 1 rfl)
  have hX7 := (hX5.ext hE6).ext r2
  have bb3 := bb1.ext r2 (ob_other (by omega))
  have hn : NC (mk (hidB X b 2) w7) (.slice a6 l6.length c6) x.natAbs := ⟨a6, c6, l6, rfl, h61, h62.2, h63.mono (NatIn.mono _) (le_store r2 (by omega) (by omega))⟩
  have hfin : Hid (sg (!s6) x.natAbs = -x) := hid (by
    have e1 := hsz.out
    rw [← e1, sg_abs]; unfold sg; cases s6 <;> simp)
  refine (isigned (hidB X b 2) w7 (!s6) _ _ hX7 hn).mono ?_
  rintro e w8 ⟨hE8, u8, rfl, s8, a8, c8, l8, rfl, h81, h82, h83⟩
  rw [hfin.out] at h82
  have bb4 := bb3.ext0 hE8
  clear k00 k01
  go_wp2_with ((with_reducible show wpList _ _ _ (⟨_, .store _ _ _, _, _, _, _⟩ :: _) _ _); refine st_storeBox stInt rfl rfl bb4 rfl rfl (one2 _ _ _ _) ?_; intro w9 q1 q2)
  have h7 := (h83.mono (NatIn.mono _) (le_store q2 (by omega) (by omega))).mono (NatIn.mono _) le_unbox
  exact bodyPost_ret (results_box rfl rfl stInt q1 rfl) rfl ⟨ExtX.box ((ExtX.box (hE.trans (hE5.trans hE6)) r2 (by omega)).trans hE8) q2 (by omega), _, rfl, s8, a8, c8, l8, rfl, h81, h82, h7⟩

theorem isign (X : Nat → Bool) (w : World) (u : Value) (x : Int) (hX : HX X w) (hu : ZV (mk X w) u x) : Calls Try.prog 53 #[u] w (IntOut w x.sign) := by
  obtain ⟨s1, a1, c1, l1, rfl, hu'⟩ := id hu
  obtain ⟨W, hW, hE, b0, hz⟩ := boxes1 w #[.bool s1, .slice a1 l1.length c1] 38
  have hXW : HX (hidB X w.heap.size 1) W := hX.boxes hz
  have hu1 := ZV.mono _ _ _ _ (le_boxes (nb := 1) hE) hu
  obtain ⟨b, hb⟩ : ∃ b, w.heap.size = b := ⟨_, rfl⟩
  have hbw : w.heap.size ≤ b := by omega
  rw [hb] at b0 hz hXW hu1
  have k00 := b0.cell 0 rfl
  have k01 := b0.cell 1 rfl
  clear hu hu'
  go_enter Try.func53, Try.ntmps53
  go_wp2_with fail
  refine (ivalue (hidB X b 1) W _ x hXW hu1).mono ?_
  rintro e w5 ⟨hE5, u5, rfl, s6, a6, c6, l6, rfl, h61, h62, h63⟩
  have bb0 := b0.ext0 hE5
  have hl0 := hid h62.len0
  have hs6 := hid h62.1
  clear k00 k01 h62
  by_cases h0 : l6.length = 0
  · have hx0 : x = 0 := hl0.out.1 h0
    subst hx0
    have hI : ((l6.length : Int) == 0) = true := beqT (by omega)
    have hl6 : (l6.length : Int) = 0 := by omega
    clear hl0 hs6 h0
    go_wp2_with ((with_reducible show wpList _ _ _ (⟨_, .store _ _ _, _, _, _, _⟩ :: _) _ _); refine st_storeBox stInt rfl rfl bb0 rfl rfl (one2 _ _ _ _) ?_; intro w7 r1 r2; have k00 := r1.cell 0 rfl; have k01 := r1.cell 1 rfl)
    have hEf := ExtX.box (hE.trans hE5) r2 (by omega)
    go_ret
    exact ⟨hEf, rfl⟩
  · have hI : ((l6.length : Int) == 0) = false := beqF (by omega)
    have hx0 : ¬ x = 0 := fun h => h0 (hl0.out.2 h)
    by_cases hneg : x < 0
    · have hf : Hid (x.sign = -1) := hid (Int.sign_eq_neg_one_of_neg hneg)
      obtain rfl : s6 = true := by rw [hs6.out]; exact decide_eq_true hneg
      clear hl0 h0 hx0 hneg hs6
      go_wp2_with ((with_reducible show wpList _ _ _ (⟨_, .store _ _ _, _, _, _, _⟩ :: _) _ _); refine st_storeBox stInt rfl rfl bb0 rfl rfl (one2 _ _ _ _) ?_; intro w7 r1 r2; have k00 := r1.cell 0 rfl; have k01 := r1.cell 1 rfl)
      have hEf := ExtX.box (hE.trans hE5) r2 (by omega)
      go_ret
      exact ⟨hEf, ret_int hf.out.symm⟩
    · have hf : Hid (x.sign = 1) := hid (Int.sign_eq_one_of_pos (by omega))
      obtain rfl : s6 = false := by rw [hs6.out]; exact decide_eq_false hneg
      clear hl0 h0 hx0 hneg hs6
      go_wp2_with ((with_reducible show wpList _ _ _ (⟨_, .store _ _ _, _, _, _, _⟩ :: _) _ _); refine st_storeBox stInt rfl rfl bb0 rfl rfl (one2 _ _ _ _) ?_; intro w7 r1 r2; have k00 := r1.cell 0 rfl; have k01 := r1.cell 1 rfl)
      have hEf := ExtX.box (hE.trans hE5) r2 (by omega)
      go_ret
      exact ⟨hEf, ret_int hf.out.symm⟩
end Go.Proofs.Ytjbhcniiioepgaa

namespace Go.Proofs.Ytjbhcniiioepgaa
open Go.RowKit Go.Rep Go.Lim

end Go.Proofs.Ytjbhcniiioepgaa

namespace Go.Proofs.Ytjbhcniiioepgaa
open Go.RowKit Go.Rep Go.Lim

/-- A bool comes back. -/
def BOut (w : World) (b : Bool) (e : Ending) (w' : World) : Prop := Ext w w' ∧ e = .returned (.bool b)

theorem rineg (X : Nat → Bool) (w : World) (u : Value) (x : Int) (hX : HX X w) (hu : ZV (mk X w) u x) : Calls Try.prog 65 #[u] w (ROut X w ZC (-x)) := by
  obtain ⟨s1, a1, c1, l1, rfl, hu'⟩ := id hu
  obtain ⟨W, hW, hE, b0, b1, hz⟩ := boxes2 w #[.bool s1, .slice a1 l1.length c1] #[.bool false, .slice none 0 0] 38 38
  have hXW : HX (hidB X w.heap.size 2) W := hX.boxes hz
  have hu1 := ZV.mono _ _ _ _ (le_boxes (nb := 2) hE) hu
  obtain ⟨b, hb⟩ : ∃ b, w.heap.size = b := ⟨_, rfl⟩
  have hbw : w.heap.size ≤ b := by omega
  rw [hb] at b0 b1 hz hXW hu1
  have k00 := b0.cell 0 rfl
  have k01 := b0.cell 1 rfl
  clear hu hu'
  go_enter Try.func65, Try.ntmps65
  go_wp2_with fail
  refine (ritake (hidB X b 2) W _ x hXW hu1).mono ?_
  rintro e w6 ⟨hE6, u6, rfl, s6, a6, c6, l6, rfl, h61, h62, h63⟩
  have hX6 := hXW.ext hE6
  have bb0 := b0.ext0 hE6
  have bb1 := b1.ext0 hE6
  have hsz := hid (sg_of h62)
  clear k00 k01
  go_wp2_with ((with_reducible show wpList _ _ _ (⟨_, .store _ _ _, _, _, _, _⟩ :: _) _ _); refine st_storeBox stInt rfl rfl bb0 rfl rfl (one2 _ _ _ _) ?_; intro w7 r1 r2; have k00 := r1.cell 0 rfl; have k01 := r1.cell 1 rfl)
  have hX7 := hX6.ext r2
  have bb3 := bb1.ext r2 (ob_other (by omega))
  have hn : NC (mk (hidB X b 2) w7) (.slice a6 l6.length c6) x.natAbs := ⟨a6, c6, l6, rfl, h61, h62.2, h63.mono (NatIn.mono _) (le_store r2 (by omega) (by omega))⟩
  have hfin : Hid (sg (!s6) x.natAbs = -x) := hid (by
    have e1 := hsz.out
    rw [← e1, sg_abs]; unfold sg; cases s6 <;> simp)
  refine (risigned (hidB X b 2) w7 (!s6) _ _ hX7 hn).mono ?_
  rintro e w8 ⟨hE8, u8, rfl, s8, a8, c8, l8, rfl, h81, h82, h83⟩
  rw [hfin.out] at h82
  have bb4 := bb3.ext0 hE8
  clear k00 k01
  go_wp2_with ((with_reducible show wpList _ _ _ (⟨_, .store _ _ _, _, _, _, _⟩ :: _) _ _); refine st_storeBox stInt rfl rfl bb4 rfl rfl (one2 _ _ _ _) ?_; intro w9 q1 q2)
  have h7 := (h83.mono (NatIn.mono _) (le_store q2 (by omega) (by omega))).mono (NatIn.mono _) le_unbox
  exact bodyPost_ret (results_box rfl rfl stInt q1 rfl) rfl ⟨ExtX.box ((ExtX.box (hE.trans hE6) r2 (by omega)).trans hE8) q2 (by omega), _, rfl, s8, a8, c8, l8, rfl, h81, h82, h7⟩

theorem risign (X : Nat → Bool) (w : World) (u : Value) (x : Int) (hX : HX X w) (hu : ZV (mk X w) u x) : Calls Try.prog 64 #[u] w (IntOut w x.sign) := by
  obtain ⟨s1, a1, c1, l1, rfl, hu'⟩ := id hu
  obtain ⟨W, hW, hE, b0, hz⟩ := boxes1 w #[.bool s1, .slice a1 l1.length c1] 38
  have hXW : HX (hidB X w.heap.size 1) W := hX.boxes hz
  have hu1 := ZV.mono _ _ _ _ (le_boxes (nb := 1) hE) hu
  obtain ⟨b, hb⟩ : ∃ b, w.heap.size = b := ⟨_, rfl⟩
  have hbw : w.heap.size ≤ b := by omega
  rw [hb] at b0 hz hXW hu1
  have k00 := b0.cell 0 rfl
  have k01 := b0.cell 1 rfl
  clear hu hu'
  go_enter Try.func64, Try.ntmps64
  go_wp2_with fail
  refine (ritake (hidB X b 1) W _ x hXW hu1).mono ?_
  rintro e w5 ⟨hE5, u5, rfl, s6, a6, c6, l6, rfl, h61, h62, h63⟩
  have bb0 := b0.ext0 hE5
  have hl0 := hid h62.len0
  have hs6 := hid h62.1
  clear k00 k01 h62
  by_cases hneg : x < 0
  · have hf : Hid (x.sign = -1) := hid (Int.sign_eq_neg_one_of_neg hneg)
    obtain rfl : s6 = true := by rw [hs6.out]; exact decide_eq_true hneg
    clear hl0 hneg hs6
    go_wp2_with ((with_reducible show wpList _ _ _ (⟨_, .store _ _ _, _, _, _, _⟩ :: _) _ _); refine st_storeBox stInt rfl rfl bb0 rfl rfl (one2 _ _ _ _) ?_; intro w7 r1 r2; have k00 := r1.cell 0 rfl; have k01 := r1.cell 1 rfl)
    have hEf := ExtX.box (hE.trans hE5) r2 (by omega)
    go_ret
    exact ⟨hEf, ret_int hf.out.symm⟩
  · obtain rfl : s6 = false := by rw [hs6.out]; exact decide_eq_false hneg
    by_cases h0 : l6.length = 0
    · have hx0 : x = 0 := hl0.out.1 h0
      subst hx0
      obtain rfl : l6 = [] := List.eq_nil_of_length_eq_zero h0
      clear hl0 hs6 h0 hneg
      simp only [List.length_nil] at h61 ⊢
      go_wp2_with ((with_reducible show wpList _ _ _ (⟨_, .store _ _ _, _, _, _, _⟩ :: _) _ _); refine st_storeBox stInt rfl rfl bb0 rfl rfl (one2 _ _ _ _) ?_; intro w7 r1 r2; have k00 := r1.cell 0 rfl; have k01 := r1.cell 1 rfl)
      have hEf := ExtX.box (hE.trans hE5) r2 (by omega)
      go_ret
      exact ⟨hEf, rfl⟩
    · have hx0 : ¬ x = 0 := fun h => h0 (hl0.out.2 h)
      have hp : 0 < l6.length := by omega
      have hf : Hid (x.sign = 1) := hid (Int.sign_eq_one_of_pos (by omega))
      clear hl0 hx0 hneg hs6 h0
      go_wp2_with ((with_reducible show wpList _ _ _ (⟨_, .store _ _ _, _, _, _, _⟩ :: _) _ _); refine st_storeBox stInt rfl rfl bb0 rfl rfl (one2 _ _ _ _) ?_; intro w7 r1 r2; have k00 := r1.cell 0 rfl; have k01 := r1.cell 1 rfl)
      have hEf := ExtX.box (hE.trans hE5) r2 (by omega)
      go_ret
      exact ⟨hEf, ret_int hf.out.symm⟩

theorem rifrom (X : Nat → Bool) (w : World) (v : Int) (hX : HX X w) (h1 : -9223372036854775808 ≤ v) (h2 : v ≤ 9223372036854775807) : Calls Try.prog 42 #[.int .i64 v] w (ROut X w ZC v) := by
  obtain ⟨W, hW, hE, b0, hz⟩ := boxes1 w #[.bool false, .slice none 0 0] 38
  have hXW : HX (hidB X w.heap.size 1) W := hX.boxes hz
  obtain ⟨b, hb⟩ : ∃ b, w.heap.size = b := ⟨_, rfl⟩
  have hbw : w.heap.size ≤ b := by omega
  rw [hb] at b0 hz hXW
  by_cases hv : v < 0
  · obtain ⟨n, hn⟩ : ∃ n : Nat, -(v + 1) = n := Int.eq_ofNat_of_zero_le (by omega)
    have hnn : Hid (sg true (n + 1) = v) := hid (by unfold sg; simp; omega)
    have hvv : Hid (-(v + 1) = (n : Int)) := hid hn
    have hnl : Hid (n < 18446744073709551616) := hid (by omega)
    have hnI : (n : Int) ≤ 9223372036854775807 := by omega
    clear hn
    go_enter Try.func42, Try.ntmps42
    go_wp2_with fail
    rw [hvv.out]
    refine (rnfrom (X := hidB X b 1) hXW hnl.out).mono ?_
    rintro e w5 ⟨hE5, u5, rfl, hu5⟩
    have hX5 := hXW.ext hE5
    go_wp2_with fail
    have hone := NC.lit hX5 1 78 (by omega) (by omega)
    have hE6 : Ext w5 (w5.alloc (.cells #[.int .u32 ((1 : Nat) : Int)] 78)) := (ExtX.refl w5).alloc _
    have hl1 : lg n ≤ 1099511627776 := by
      have : n < B ^ 2 := by rw [B_eq]; omega
      have := lg_le.2 this; omega
    refine (rnadd (hX5.ext hE6) (mkx NV.mono (hu5.nv hl1) hE6) (hone.nv (by rw [lg_one]; decide))).mono ?_
    rintro e w7 ⟨hE7, u7, rfl, hu7⟩
    have hE57 := hE5.trans (hE6.trans hE7)
    have hX7 := hXW.ext hE57
    clear hE5 hE6 hE7 hX5 hone hu5 hl1
    go_wp2_with fail
    refine (risigned (hidB X b 1) w7 true u7 _ hX7 hu7).mono ?_
    rintro e w8 ⟨hE8, u6, rfl, s6, a6, c6, l6, rfl, h61, h62, h63⟩
    rw [hnn.out] at h62
    have bb0 := (b0.ext0 hE57).ext0 hE8
    go_wp2_with ((with_reducible show wpList _ _ _ (⟨_, .store _ _ _, _, _, _, _⟩ :: _) _ _); refine st_storeBox stInt rfl rfl bb0 rfl rfl (one2 _ _ _ _) ?_; intro w9 r1 r2)
    have h7 := (h63.mono (NatIn.mono _) (le_store r2 (by omega) (by omega))).mono (NatIn.mono _) le_unbox
    exact bodyPost_ret (results_box rfl rfl stInt r1 rfl) rfl ⟨ExtX.box (hE.trans (hE57.trans hE8)) r2 (by omega), _, rfl, s6, a6, c6, l6, rfl, h61, h62, h7⟩
  · obtain ⟨n, rfl⟩ := Int.eq_ofNat_of_zero_le (show 0 ≤ v by omega)
    have hn : Hid (sg false n = (n : Int)) := hid rfl
    have hlt2 : Hid (n < 18446744073709551616) := hid (by omega)
    go_enter Try.func42, Try.ntmps42
    go_wp2_with fail
    refine (rnfrom (X := hidB X b 1) hXW hlt2.out).mono ?_
    rintro e w5 ⟨hE5, u5, rfl, hu5⟩
    go_wp2_with fail
    refine (risigned (hidB X b 1) w5 false u5 n (hXW.ext hE5) hu5).mono ?_
    rintro e w6 ⟨hE6, u6, rfl, s6, a6, c6, l6, rfl, h61, h62, h63⟩
    have bb0 := (b0.ext0 hE5).ext0 hE6
    go_wp2_with ((with_reducible show wpList _ _ _ (⟨_, .store _ _ _, _, _, _, _⟩ :: _) _ _); refine st_storeBox stInt rfl rfl bb0 rfl rfl (one2 _ _ _ _) ?_; intro w7 r1 r2)
    have h7 := (h63.mono (NatIn.mono _) (le_store r2 (by omega) (by omega))).mono (NatIn.mono _) le_unbox
    exact bodyPost_ret (results_box rfl rfl stInt r1 rfl) rfl ⟨ExtX.box (hE.trans (hE5.trans hE6)) r2 (by omega), _, rfl, s6, a6, c6, l6, rfl, h61, h62, h7⟩

theorem risame (X : Nat → Bool) (w : World) (u v : Value) (x y : Int) (hu : ZC (mk X w) u x) (hv : ZC (mk X w) v y) (hl : lg x.natAbs ≤ 1099511627776) : Calls Try.prog 40 #[u, v] w (BOut w (decide (x = y))) := by
  obtain ⟨s1, a1, c1, l1, rfl, h11, h12, h13⟩ := hu
  obtain ⟨s2, a2, c2, l2, rfl, h21, h22, h23⟩ := hv
  obtain ⟨W, hW, hE, b0, b1, hz⟩ := boxes2 w #[.bool s1, .slice a1 l1.length c1] #[.bool s2, .slice a2 l2.length c2] 38 38
  have hn1 : NC (mk X W) (.slice a1 l1.length c1) x.natAbs := ⟨a1, c1, l1, rfl, h11, h12.2, h13.mono (NatIn.mono _) (mk_ext hE)⟩
  have hn2 : NC (mk X W) (.slice a2 l2.length c2) y.natAbs := ⟨a2, c2, l2, rfl, h21, h22.2, h23.mono (NatIn.mono _) (mk_ext hE)⟩
  obtain ⟨b, hb⟩ : ∃ b, w.heap.size = b := ⟨_, rfl⟩
  rw [hb] at b0 b1 hz
  have k00 := b0.cell 0 rfl
  have k01 := b0.cell 1 rfl
  have k10 := b1.cell 0 rfl
  have k11 := b1.cell 1 rfl
  have hs1 := hid (sg_of h12)
  have hs2 := hid (sg_of h22)
  by_cases hss : s1 = s2
  · subst hss
    have hf : Hid (decide (x = y) = decide (x.natAbs = y.natAbs)) := hid (by
      rw [Bool.eq_iff_iff]
      simp only [decide_eq_true_eq]
      constructor
      · intro h; rw [h]
      · intro h; rw [← hs1.out, ← hs2.out, h])
    have hl' := hid hl
    clear h12 h22 hl
    go_enter Try.func40, Try.ntmps40
    go_wp2_with fail
    refine (rnsame X W _ _ _ _ hn1 hn2 hl'.out).mono ?_
    rintro e w5 ⟨rfl, m, rfl⟩
    go_wp2_with fail
    go_ret
    exact ⟨hE.trans ((ExtX.refl W).drewN m), ret_bool hf.out.symm⟩
  · have hf : Hid (decide (x = y) = false) := hid (by
      rw [decide_eq_false_iff_not]
      intro h; subst h; exact hss (h12.1.trans h22.1.symm))
    have hne : (s1 == s2) = false := by simpa using hss
    clear h12 h22 hl hss
    go_enter Try.func40, Try.ntmps40
    go_wp2_with fail
    go_ret
    exact ⟨hE, ret_bool hf.out.symm⟩

theorem run_fieldMag (s : Bool) (a : Option Addr) (n c : Nat) (W : World) : (Instr.field 38 (.agg #[.bool s, .slice a n c]) 1).run Try.prog W = .ok (.slice a n c) W := by kernel_rfl
set_option maxRecDepth 100000 in
set_option maxHeartbeats 800000 in
theorem rigcd (X : Nat → Bool) (w : World) (u v : Value) (x y : Int) (hX : HX X w) (hu : ZV (mk X w) u x) (hv : ZV (mk X w) v y) (hbx : lg x.natAbs ≤ 274877906944) (hby : lg y.natAbs ≤ 274877906944) : Calls Try.prog 66 #[u, v] w (ROut X w NC (Nat.gcd x.natAbs y.natAbs)) := by
  have hbx' := hid hbx
  have hby' := hid hby
  clear hbx hby
  have hlx := hid hu.lg
  have hly := hid hv.lg
  obtain ⟨s1, a1, c1, l1, rfl, hu'⟩ := id hu
  obtain ⟨s2, a2, c2, l2, rfl, hv'⟩ := id hv
  obtain ⟨W, hW, hE, b0, b1, hz⟩ := boxes2 w #[.bool s1, .slice a1 l1.length c1] #[.bool s2, .slice a2 l2.length c2] 38 38
  have hXW : HX (hidB X w.heap.size 2) W := hX.boxes hz
  have hu1 := ZV.mono _ _ _ _ (le_boxes (nb := 2) hE) hu
  have hv1 := ZV.mono _ _ _ _ (le_boxes (nb := 2) hE) hv
  obtain ⟨b, hb⟩ : ∃ b, w.heap.size = b := ⟨_, rfl⟩
  have hbw : w.heap.size ≤ b := by omega
  rw [hb] at b0 b1 hz hXW hu1 hv1
  have hEd : Ext W W.drew := (ExtX.refl W).drew
  have hXd : HX (hidB X b 2) W.drew := hXW
  have hud : ZV (mk (hidB X b 2) W.drew) (.agg #[.bool s1, .slice a1 l1.length c1]) x := hu1
  have hvd : ZV (mk (hidB X b 2) W.drew) (.agg #[.bool s2, .slice a2 l2.length c2]) y := hv1
  have k00 := b0.cell 0 rfl
  have k01 := b0.cell 1 rfl
  have k10 := b1.cell 0 rfl
  have k11 := b1.cell 1 rfl
  clear hu hv hu' hv'
  have hB := hid (And.intro b0 b1)
  have hfl := run_fieldMag
  go_enter Try.func66, Try.ntmps66
  go_wp2_with fail
  go_region_with (first | (go_at_call 80; (with_reducible refine (ritake (hidB X b 2) W.drew _ x hXd hud).mono ?_); rintro e w5 ⟨hE5, u5, rfl, s5, a5, c5, l5, rfl, h51, h52, h53⟩; have bb0 := hB.out.1.ext0 (hEd.trans hE5); have bb1 := hB.out.2.ext0 (hEd.trans hE5); have e00 := bb0.cell 0 rfl; have e01 := bb0.cell 1 rfl; have e10 := bb1.cell 0 rfl; have e11 := bb1.cell 1 rfl) | (go_at_call 80; (with_reducible refine (ritake (hidB X b 2) w5 _ y (HX.ext hXd hE5) (mkx ZV.mono hvd hE5)).mono ?_); rintro e w6 ⟨hE6, u6, rfl, s6, a6, c6, l6, rfl, h61, h62, h63⟩; have hX6 := HX.ext (HX.ext hXd hE5) hE6; have hm5 : NV (mk (hidB X b 2) w6) (.slice a5 l5.length c5) x.natAbs := NC.nv ⟨a5, c5, l5, rfl, h51, h52.2, h53.mono (NatIn.mono _) (mk_ext hE6)⟩ (by have := hbx'.out; omega); have hm6 : NV (mk (hidB X b 2) w6) (.slice a6 l6.length c6) y.natAbs := NC.nv ⟨a6, c6, l6, rfl, h61, h62.2, h63⟩ (by have := hby'.out; omega)) | (go_at_call 81; (with_reducible refine (rngcd (hidB X b 2) w6 _ _ _ _ hX6 hm5 hm6 hbx'.out hby'.out).mono ?_); rintro e w7 ⟨hE7, u7, rfl, hu7⟩))
  all_goals
    have hEf := hE.trans (hEd.trans (hE5.trans (hE6.trans hE7)))
    clear e00 e01 e10 e11 k00 k01 k10 k11 hfl
    go_wp2_with fail
    go_ret
    exact ⟨hEf, _, rfl, NC.mono _ _ _ _ le_unbox hu7⟩
end Go.Proofs.Ytjbhcniiioepgaa

namespace Go.Proofs.Ytjbhcniiioepgaa
open Go.RowKit Go.Rep Go.Lim

/-- Quotient, 0 and true come back. -/
def IDOut (X : Nat → Bool) (w : World) (q : Int) (e : Ending) (w' : World) : Prop := Ext w w' ∧ ∃ u sv av nv cv, e = .returned (.tuple #[u, .agg #[.bool sv, .slice av nv cv], .bool true]) ∧ ZC (mk X w') u q
theorem results_box3 {P : Program} {w : World} {fn : Func} {tmps : Array Value} {c c2 d : Tmp} {t : TypeId} {n b b' : Nat} {cs cs' : Array Value} {T T' : TypeId} (h : fn.results = #[.cell c t, .cell c2 t, .tmp d]) (hp : tmps.getD c undef = .pointer (some ⟨b, 0, none⟩)) (hp2 : tmps.getD c2 undef = .pointer (some ⟨b', 0, none⟩)) (hT : StructT P t n) (hb : Bx w b cs T) (hcs : cs.size = n) (hb' : Bx w b' cs' T') (hcs' : cs'.size = n) :
    (results fn tmps).run P w = .ok (.tuple #[.agg cs, .agg cs', tmps.getD d undef]) w := by
  have hl := run_loadBox (P := P) hT hb hcs
  have hl' := run_loadBox (P := P) hT hb' hcs'
  rw [Array.getD_eq_getD_getElem?] at hp hp2
  simp [results, h, hp, hp2, asAddr, hl, hl']

set_option maxRecDepth 100000 in
set_option maxHeartbeats 800000 in
theorem ridiv (X : Nat → Bool) (w : World) (u v : Value) (x y : Int) (hX : HX X w) (hu : ZV (mk X w) u x) (hv : ZV (mk X w) v y) (hbx : lg x.natAbs ≤ 274877906944) (hby : lg y.natAbs ≤ 274877906944) (h0 : 0 < y) (hd : y ∣ x) : Calls Try.prog 67 #[u, v] w (IDOut X w (x / y)) := by
  have hbx' := hid hbx
  have hby' := hid hby
  have hq : Hid (∃ k : Int, x = y * k ∧ x / y = k) := hid (by
    obtain ⟨k, rfl⟩ := hd
    exact ⟨k, rfl, Int.mul_ediv_cancel_left _ (by omega)⟩)
  have h0' := hid h0
  clear hbx hby hd h0
  have hlx := hid hu.lg
  have hly := hid hv.lg
  obtain ⟨s1, a1, c1, l1, rfl, hu'⟩ := id hu
  obtain ⟨s2, a2, c2, l2, rfl, hv'⟩ := id hv
  obtain ⟨W, hW, hE, b0, b1, b2, b3, hz⟩ := boxes4 w #[.bool s1, .slice a1 l1.length c1] #[.bool s2, .slice a2 l2.length c2] #[.bool false, .slice none 0 0] #[.bool false, .slice none 0 0] 38 38 38 38
  have hXW : HX (hidB X w.heap.size 4) W := hX.boxes hz
  have hu1 := ZV.mono _ _ _ _ (le_boxes (nb := 4) hE) hu
  have hv1 := ZV.mono _ _ _ _ (le_boxes (nb := 4) hE) hv
  obtain ⟨b, hb⟩ : ∃ b, w.heap.size = b := ⟨_, rfl⟩
  have hbw : w.heap.size ≤ b := by omega
  rw [hb] at b0 b1 b2 b3 hz hXW hu1 hv1
  have hEd : Ext W W.drew := (ExtX.refl W).drew
  have hXd : HX (hidB X b 4) W.drew := hXW
  have hud : ZV (mk (hidB X b 4) W.drew) (.agg #[.bool s1, .slice a1 l1.length c1]) x := hu1
  have hvd : ZV (mk (hidB X b 4) W.drew) (.agg #[.bool s2, .slice a2 l2.length c2]) y := hv1
  have k00 := b0.cell 0 rfl
  have k01 := b0.cell 1 rfl
  have k10 := b1.cell 0 rfl
  have k11 := b1.cell 1 rfl
  clear hu hv hu' hv'
  go_enter Try.func67, Try.ntmps67
  go_upto_region 1 with (fail)
  go_cut [] from 10 to 13 (fun wx => ∃ s3 a3 c3 l3 s4 a4 c4 l4, Bx wx b #[.bool s3, .slice a3 l3 c3] 38 ∧ Bx wx (b + 1) #[.bool s4, .slice a4 l4 c4] 38 ∧ Bx wx (b + 1 + 1) #[.bool false, .slice none 0 0] 38 ∧ Bx wx (b + 1 + 1 + 1) #[.bool false, .slice none 0 0] 38 ∧ ZC (mk (hidB X b 4) wx) (.agg #[.bool s3, .slice a3 l3 c3]) x ∧ ZC (mk (hidB X b 4) wx) (.agg #[.bool s4, .slice a4 l4 c4]) y ∧ Ext w wx)
  case first =>
    go_region_with (first | (go_at_call 80; (with_reducible refine (ritake (hidB X b 4) W.drew _ x hXd hud).mono ?_); rintro e w5 ⟨hE5, u5, rfl, s5, a5, c5, l5, rfl, h51, h52, h53⟩; have bb0 := b0.ext0 (hEd.trans hE5); have bb1 := b1.ext0 (hEd.trans hE5); have e00 := bb0.cell 0 rfl; have e01 := bb0.cell 1 rfl; have e10 := bb1.cell 0 rfl; have e11 := bb1.cell 1 rfl) | (go_at_call 80; (with_reducible refine (ritake (hidB X b 4) w5 _ y (HX.ext hXd hE5) (mkx ZV.mono hvd hE5)).mono ?_); rintro e w6 ⟨hE6, u6, rfl, s6, a6, c6, l6, rfl, h61, h62, h63⟩; have bb2 := bb0.ext0 hE6; have bb3 := bb1.ext0 hE6; have g00 := bb2.cell 0 rfl; have g01 := bb2.cell 1 rfl; have g10 := bb3.cell 0 rfl; have g11 := bb3.cell 1 rfl; have fr0 := bb2.frozen 0; have fr1 := bb2.frozen 1; have fr2 := bb3.frozen 0; have fr3 := bb3.frozen 1))
    all_goals
      obtain ⟨wf, hwf, q0, q1, q2, q3, q4⟩ := two_stores (X := X) (nb := 4) bb2 bb3 (hE.trans ((hEd.trans hE5).trans hE6)) hbw (by omega) (.bool s5) (.slice a5 l5.length c5) (.bool s6) (.slice a6 l6.length c6)
      rw [hwf]
      have hfx : ZC (mk (hidB X b 4) wf) (.agg #[.bool s5, .slice a5 l5.length c5]) x := ⟨s5, a5, c5, l5, rfl, h51, h52, (h53.mono (NatIn.mono _) (mk_ext hE6)).mono (NatIn.mono _) q4⟩
      have hfy : ZC (mk (hidB X b 4) wf) (.agg #[.bool s6, .slice a6 l6.length c6]) y := ⟨s6, a6, c6, l6, rfl, h61, h62, h63.mono (NatIn.mono _) q4⟩
      have q5 := q2 (b + 1 + 1) _ _ (by omega) (by omega) ((b2.ext0 (hEd.trans hE5)).ext0 hE6)
      have q6 := q2 (b + 1 + 1 + 1) _ _ (by omega) (by omega) ((b3.ext0 (hEd.trans hE5)).ext0 hE6)
      clear e00 e01 e10 e11 g00 g01 g10 g11 fr0 fr1 fr2 fr3 k00 k01 k10 k11 hwf
      go_wp2_with fail
      go_meet
      exact ⟨_, _, _, _, _, _, _, _, q0, q1, q5, q6, hfx, hfy, q3⟩
  case rest =>
    clear k00 k01 k10 k11 b0 b1 b2 b3 hu1 hv1 hud hvd hXd hEd hW
    obtain ⟨s3, a3, c3, n3, s4, a4, c4, n4, b0, b1, b2, b3, hx, hy, hE1⟩ := hcut
    obtain ⟨_, _, _, l3, heq, h31, h32, h33⟩ := hx
    simp only [Value.agg.injEq, Array.mk.injEq, List.cons.injEq, Value.bool.injEq, Value.slice.injEq, and_true] at heq
    obtain ⟨rfl, rfl, rfl, rfl⟩ := heq
    obtain ⟨_, _, _, l4, heq, h41, h42, h43⟩ := hy
    simp only [Value.agg.injEq, Array.mk.injEq, List.cons.injEq, Value.bool.injEq, Value.slice.injEq, and_true] at heq
    obtain ⟨rfl, rfl, rfl, rfl⟩ := heq
    have hlz := hid (sg_of h32)
    have hlw := hid (sg_of h42)
    have hsx := hid h32.1
    have hsy := hid h42.1
    have hEd : Ext wc wc.drew := (ExtX.refl wc).drew
    have hnx : NV (mk (hidB X b 4) wc) (.slice a3 l3.length c3) x.natAbs := NC.nv ⟨a3, c3, l3, rfl, h31, h32.2, h33⟩ (by have := hlx.out; omega)
    have hny : NV (mk (hidB X b 4) wc) (.slice a4 l4.length c4) y.natAbs := NC.nv ⟨a4, c4, l4, rfl, h41, h42.2, h43⟩ (by have := hly.out; omega)
    have hzz : w.heap.size + 4 ≤ wc.heap.size := by have := b3.lt; omega
    have hXc : HX (hidB X b 4) wc := hX.boxes' hE1 (by omega) hzz
    have k00 := b0.cell 0 rfl
    have k01 := b0.cell 1 rfl
    have k10 := b1.cell 0 rfl
    have k11 := b1.cell 1 rfl
    have hy0 : Hid (0 < y.natAbs) := hid (by have := h0'.out; omega)
    have hmod : Hid (x.natAbs % y.natAbs = 0) := hid (by
      obtain ⟨k, hk, _⟩ := hq.out
      rw [hk, Int.natAbs_mul]; exact Nat.mul_mod_right _ _)
    obtain rfl : s4 = false := by rw [hsy.out]; exact decide_eq_false (by have := h0'.out; omega)
    have hfin : Hid (sg s3 (x.natAbs / y.natAbs) = x / y) := hid (by
      obtain ⟨k, hk, hk2⟩ := hq.out
      have h0 := h0'.out
      have e1 := hlz.out
      rw [hk2]
      have hdv : x.natAbs / y.natAbs = k.natAbs := by rw [hk, Int.natAbs_mul]; exact Nat.mul_div_cancel_left _ hy0.out
      rw [hdv, hsx.out]
      have hs : (x < 0) = (k < 0) := by
        rw [hk]
        exact propext ⟨fun h => by
          by_cases hk0 : k < 0
          · exact hk0
          · have := Int.mul_nonneg (show 0 ≤ y by omega) (show 0 ≤ k by omega); omega, fun h => Int.mul_neg_of_pos_of_neg h0 h⟩
      unfold sg
      simp only [hs]
      by_cases hk0 : k < 0
      · simp only [hk0, decide_true, if_true]; omega
      · simp only [hk0, decide_false, Bool.false_eq_true, if_false]; omega)
    clear hsx hsy hlz hlw h32 h42 hEd
    go_wp2_with fail
    refine (rndiv (hidB X b 4) wc _ _ _ _ hXc hnx hny hbx'.out hby'.out hy0.out).mono ?_
    rintro e w5 ⟨hE5, qu, ru, rfl, hqu, hru⟩
    rw [hmod.out] at hru
    obtain ⟨a5, c5, l5, rfl, h51, h52, h53⟩ := hru
    obtain rfl : l5 = [] := List.eq_nil_of_length_eq_zero ((canon_len0 h52).2 rfl)
    have hX5 := hXc.ext hE5
    have bb0 := b0.ext0 hE5
    have bb1 := b1.ext0 hE5
    have bb2 := b2.ext0 hE5
    have bb3 := b3.ext0 hE5
    clear k00 k01 k10 k11
    have k00 := bb0.cell 0 rfl
    have k01 := bb0.cell 1 rfl
    have k10 := bb1.cell 0 rfl
    have k11 := bb1.cell 1 rfl
    simp only [List.length_nil]
    cases s3
    ·
      go_wp2_with fail
      refine (risigned (hidB X b 4) w5 false qu _ hX5 hqu).mono ?_
      rintro e w6 ⟨hE6, u6, rfl, s6, a6, c6, l6, rfl, h61, h62, h63⟩
      rw [hfin.out] at h62
      go_wp2_with fail
      refine (risigned (hidB X b 4) w6 false _ 0 (hX5.ext hE6) (mkx NC.mono ⟨a5, c5, [], rfl, h51, h52, h53⟩ hE6)).mono ?_
      rintro e w7 ⟨hE7, u7, rfl, s7, a7, c7, l7, rfl, h71, h72, h73⟩
      have d2 := (bb2.ext0 hE6).ext0 hE7
      have d3 := (bb3.ext0 hE6).ext0 hE7
      have hs7 := h63.mono (NatIn.mono _) (mk_ext hE7)
      have hE57 := hE1.trans (hE5.trans (hE6.trans hE7))
      clear k00 k01 k10 k11 h72 h73 h71
      go_wp2_with ((with_reducible show wpList _ _ _ (⟨_, .store _ _ _, _, _, _, _⟩ :: _) _ _); first | (refine st_storeBox stInt rfl rfl d2 rfl rfl (one2 _ _ _ _) ?_; intro w8 r1 r2; have d3' := d3.ext r2 (ob_other (by omega))) | (refine st_storeBox stInt rfl rfl d3' rfl rfl (one2 _ _ _ _) ?_; intro w9 r3 r4))
      have r5 := r1.ext r4 (ob_other (by omega))
      have h8 := ((hs7.mono (NatIn.mono _) (le_store r2 (by omega) (by omega))).mono (NatIn.mono _) (le_store r4 (by omega) (by omega))).mono (NatIn.mono _) le_unbox
      exact bodyPost_ret (results_box3 rfl rfl rfl stInt r5 rfl r3 rfl) rfl ⟨ExtX.box (ExtX.box hE57 r2 (by omega)) r4 (by omega), _, _, _, _, _, rfl, s6, a6, c6, l6, rfl, h61, h62, h8⟩
    ·
      go_wp2_with fail
      refine (risigned (hidB X b 4) w5 true qu _ hX5 hqu).mono ?_
      rintro e w6 ⟨hE6, u6, rfl, s6, a6, c6, l6, rfl, h61, h62, h63⟩
      rw [hfin.out] at h62
      go_wp2_with fail
      refine (risigned (hidB X b 4) w6 false _ 0 (hX5.ext hE6) (mkx NC.mono ⟨a5, c5, [], rfl, h51, h52, h53⟩ hE6)).mono ?_
      rintro e w7 ⟨hE7, u7, rfl, s7, a7, c7, l7, rfl, h71, h72, h73⟩
      have d2 := (bb2.ext0 hE6).ext0 hE7
      have d3 := (bb3.ext0 hE6).ext0 hE7
      have hs7 := h63.mono (NatIn.mono _) (mk_ext hE7)
      have hE57 := hE1.trans (hE5.trans (hE6.trans hE7))
      clear k00 k01 k10 k11 h72 h73 h71
      go_wp2_with ((with_reducible show wpList _ _ _ (⟨_, .store _ _ _, _, _, _, _⟩ :: _) _ _); first | (refine st_storeBox stInt rfl rfl d2 rfl rfl (one2 _ _ _ _) ?_; intro w8 r1 r2; have d3' := d3.ext r2 (ob_other (by omega))) | (refine st_storeBox stInt rfl rfl d3' rfl rfl (one2 _ _ _ _) ?_; intro w9 r3 r4))
      have r5 := r1.ext r4 (ob_other (by omega))
      have h8 := ((hs7.mono (NatIn.mono _) (le_store r2 (by omega) (by omega))).mono (NatIn.mono _) (le_store r4 (by omega) (by omega))).mono (NatIn.mono _) le_unbox
      exact bodyPost_ret (results_box3 rfl rfl rfl stInt r5 rfl r3 rfl) rfl ⟨ExtX.box (ExtX.box hE57 r2 (by omega)) r4 (by omega), _, _, _, _, _, rfl, s6, a6, c6, l6, rfl, h61, h62, h8⟩
end Go.Proofs.Ytjbhcniiioepgaa

namespace Go.Lim
/-- The order of two integers: -1, 0 or 1. -/
def cmpZ (a b : Int) : Int := if a < b then -1 else if b < a then 1 else 0
theorem cmpZ_of (x y : Int) : (x.sign < y.sign → cmpZ x y = -1) ∧ (y.sign < x.sign → cmpZ x y = 1) ∧ (x.sign = y.sign → x.sign * cmpN x.natAbs y.natAbs = cmpZ x y) := by
  have hs : ∀ z : Int, (z < 0 ∧ z.sign = -1) ∨ (z = 0 ∧ z.sign = 0) ∨ (0 < z ∧ z.sign = 1) := fun z => by
    rcases Int.lt_trichotomy z 0 with h | h | h
    · exact .inl ⟨h, Int.sign_eq_neg_one_of_neg h⟩
    · subst h; exact .inr (.inl ⟨rfl, rfl⟩)
    · exact .inr (.inr ⟨h, Int.sign_eq_one_of_pos h⟩)
  unfold cmpZ cmpN
  rcases hs x with ⟨h1, e1⟩ | ⟨h1, e1⟩ | ⟨h1, e1⟩ <;> rcases hs y with ⟨h2, e2⟩ | ⟨h2, e2⟩ | ⟨h2, e2⟩ <;> rw [e1, e2]
  all_goals refine ⟨fun h => ?_, fun h => ?_, fun h => ?_⟩
  all_goals first
    | omega
    | (repeat' split) <;> omega
end Go.Lim
namespace Go.Proofs.Ytjbhcniiioepgaa
open Go.RowKit Go.Rep Go.Lim

theorem ifrom (X : Nat → Bool) (w : World) (v : Int) (hX : HX X w) (h1 : -9223372036854775808 ≤ v) (h2 : v ≤ 9223372036854775807) : Calls Try.prog 29 #[.int .i64 v] w (ROut X w ZC v) := by
  obtain ⟨W, hW, hE, b0, hz⟩ := boxes1 w #[.bool false, .slice none 0 0] 38
  have hXW : HX (hidB X w.heap.size 1) W := hX.boxes hz
  obtain ⟨b, hb⟩ : ∃ b, w.heap.size = b := ⟨_, rfl⟩
  have hbw : w.heap.size ≤ b := by omega
  rw [hb] at b0 hz hXW
  have hlt : Hid (v.natAbs < 18446744073709551616) := hid (by omega)
  by_cases hv : v < 0
  · have hn : Hid (sg true v.natAbs = v) := hid (by unfold sg; simp; omega)
    have hvv : Hid (IntKind.u64.wrap (-(IntKind.u64.wrap v)) = (v.natAbs : Int)) := hid (by rw [IntKind.wrap_u64, IntKind.wrap_u64]; omega)
    go_enter Try.func29, Try.ntmps29
    go_wp2_with fail
    rw [hvv.out]
    refine (nfrom (X := hidB X b 1) hXW hlt.out).mono ?_
    rintro e w5 ⟨hE5, u5, rfl, hu5⟩
    go_wp2_with fail
    refine (isigned (hidB X b 1) w5 true u5 _ (hXW.ext hE5) hu5).mono ?_
    rintro e w6 ⟨hE6, u6, rfl, s6, a6, c6, l6, rfl, h61, h62, h63⟩
    rw [hn.out] at h62
    have bb0 := (b0.ext0 hE5).ext0 hE6
    go_wp2_with ((with_reducible show wpList _ _ _ (⟨_, .store _ _ _, _, _, _, _⟩ :: _) _ _); refine st_storeBox stInt rfl rfl bb0 rfl rfl (one2 _ _ _ _) ?_; intro w7 r1 r2)
    have h7 := (h63.mono (NatIn.mono _) (le_store r2 (by omega) (by omega))).mono (NatIn.mono _) le_unbox
    exact bodyPost_ret (results_box rfl rfl stInt r1 rfl) rfl ⟨ExtX.box (hE.trans (hE5.trans hE6)) r2 (by omega), _, rfl, s6, a6, c6, l6, rfl, h61, h62, h7⟩
  · obtain ⟨n, rfl⟩ := Int.eq_ofNat_of_zero_le (show 0 ≤ v by omega)
    have hn : Hid (sg false n = (n : Int)) := hid rfl
    have hlt2 : Hid (n < 18446744073709551616) := hid (by omega)
    go_enter Try.func29, Try.ntmps29
    go_wp2_with fail
    refine (nfrom (X := hidB X b 1) hXW hlt2.out).mono ?_
    rintro e w5 ⟨hE5, u5, rfl, hu5⟩
    go_wp2_with fail
    refine (isigned (hidB X b 1) w5 false u5 n (hXW.ext hE5) hu5).mono ?_
    rintro e w6 ⟨hE6, u6, rfl, s6, a6, c6, l6, rfl, h61, h62, h63⟩
    have bb0 := (b0.ext0 hE5).ext0 hE6
    go_wp2_with ((with_reducible show wpList _ _ _ (⟨_, .store _ _ _, _, _, _, _⟩ :: _) _ _); refine st_storeBox stInt rfl rfl bb0 rfl rfl (one2 _ _ _ _) ?_; intro w7 r1 r2)
    have h7 := (h63.mono (NatIn.mono _) (le_store r2 (by omega) (by omega))).mono (NatIn.mono _) le_unbox
    exact bodyPost_ret (results_box rfl rfl stInt r1 rfl) rfl ⟨ExtX.box (hE.trans (hE5.trans hE6)) r2 (by omega), _, rfl, s6, a6, c6, l6, rfl, h61, h62, h7⟩

end Go.Proofs.Ytjbhcniiioepgaa
