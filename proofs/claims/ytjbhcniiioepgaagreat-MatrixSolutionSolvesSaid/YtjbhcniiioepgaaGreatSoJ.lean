/- rational.Valid, value. Conditions: at most 2^36 digits. rational.times, lowest, FromInt. Conditions: at most 2^38 digits. rational.Add. Conditions: at most 2^36 digits. rational.Mul. Conditions: at most 2^36 digits. -/
import Derived.Test.YtjbhcniiioepgaaGreatSoI
namespace Go.Lim
theorem cmpN_eq0 (a b : Nat) : (cmpN a b == 0) = decide (a = b) := by
  rw [Bool.eq_iff_iff]; simp only [beq_iff_eq, decide_eq_true_eq]; exact cmpN_eq a b
end Go.Lim
namespace Go.Proofs.YtjbhcniiioepgaaGreat
open Go.RowKit Go.Rep Go.Lim

set_option maxRecDepth 100000 in
theorem qvalid (X : Nat → Bool) (w : World) (s : Bool) (ao bo : Option Addr) (c e : Nat) (m d : List Nat) (hX : HX X w) (hm : Sl (NatIn .u32) 1 (mk X w) ao m) (hd : Sl (NatIn .u32) 1 (mk X w) bo d) (hml : m.length ≤ 68719476736) (hdl : d.length ≤ 68719476736) (hmd : Dig m) (hdd : Dig d) (hmc : m.length ≤ c) (hdc : d.length ≤ e) :
    Calls Tryz.prog 108 #[.agg #[.bool s, .slice ao m.length c, .slice bo d.length e]] w (BOut w (validQ s m d)) := by
  obtain ⟨W, hW, hE, b0, hz⟩ := boxes1 w #[.bool s, .slice ao m.length c, .slice bo d.length e] 31
  have hXW : HX X W := hX.ext hE
  have hmW := hm.mono (NatIn.mono _) (mk_ext hE)
  have hdW := hd.mono (NatIn.mono _) (mk_ext hE)
  obtain ⟨b, hb⟩ : ∃ b, w.heap.size = b := ⟨_, rfl⟩
  rw [hb] at b0 hz
  have k00 := b0.cell 0 rfl
  have k01 := b0.cell 1 rfl
  have k02 := b0.cell 2 rfl
  have hdef : Hid (validQ s m d = (validZ s m && validL d && (decide (d.length = 0) || (decide (0 < m.length) && !(nv d == 1) && (Nat.gcd (nv m) (nv d) == 1))))) := hid rfl
  clear hX hm hd hz
  cases hv : validZ s m
  · have hf : Hid (validQ s m d = false) := hid (by rw [hdef.out, hv]; rfl)
    have hv' := hid hv
    clear hv hdef
    go_enter Tryz.func108, Tryz.ntmps108
    go_wp2_with fail
    refine (ivalid X W s ao c m hmW (by omega)).mono ?_
    rintro e w1 ⟨hE1, rfl⟩
    rw [hv'.out]
    clear k00 k01 k02
    go_wp2_with fail
    go_ret
    exact ⟨hE.trans hE1, ret_bool hf.out.symm⟩
  · cases hl : validL d
    · have hf : Hid (validQ s m d = false) := hid (by rw [hdef.out, hv, hl]; rfl)
      have hv' := hid hv
      have hl' := hid hl
      clear hv hdef hl
      go_enter Tryz.func108, Tryz.ntmps108
      go_wp2_with fail
      refine (ivalid X W s ao c m hmW (by omega)).mono ?_
      rintro e w1 ⟨hE1, rfl⟩
      rw [hv'.out]
      have j02 := (b0.ext0 hE1).cell 2 rfl
      have hd1 := hdW.mono (NatIn.mono _) (mk_ext hE1)
      clear k00 k01 k02
      go_wp2_with fail
      refine (valid_any X _ _ _ _ hd1 (by omega)).mono ?_
      rintro e w2 ⟨rfl, rfl⟩
      rw [hl'.out]
      clear j02
      go_wp2_with fail
      go_ret
      exact ⟨hE.trans hE1, ret_bool hf.out.symm⟩
    · have hf : Hid (validQ s m d = (decide (d.length = 0) || (decide (0 < m.length) && !(nv d == 1) && (Nat.gcd (nv m) (nv d) == 1)))) := hid (by rw [hdef.out, hv, hl]; rfl)
      have hv' := hid hv
      have hl' := hid hl
      have hmv : validL m = true := by unfold validZ at hv; simp at hv; exact hv.1
      have hcm := hid (show Canon m (nv m) from ⟨hmd, hmv, rfl⟩)
      have hcd := hid (show Canon d (nv d) from ⟨hdd, hl, rfl⟩)
      clear hv hdef hl hmv
      by_cases h0 : d.length = 0
      · have hf2 : Hid (validQ s m d = true) := hid (by rw [hf.out, decide_eq_true h0]; rfl)
        obtain rfl : d = [] := List.eq_nil_of_length_eq_zero h0
        clear h0 hf
        simp only [List.length_nil] at hW b0 k02 ⊢
        go_enter Tryz.func108, Tryz.ntmps108
        go_wp2_with fail
        refine (ivalid X W s ao c m hmW (by omega)).mono ?_
        rintro e w1 ⟨hE1, rfl⟩
        rw [hv'.out]
        have j02 := (b0.ext0 hE1).cell 2 rfl
        have hd1 := hdW.mono (NatIn.mono _) (mk_ext hE1)
        clear k00 k01 k02
        go_wp2_with fail
        refine (valid_any X _ [] _ _ hd1 (by simp)).mono ?_
        rintro e w2 ⟨rfl, rfl⟩
        rw [hl'.out]
        go_wp2_with fail
        go_ret
        exact ⟨hE.trans hE1, ret_bool hf2.out.symm⟩
      · have hdI : ((d.length : Int) == 0) = false := beqF (by omega)
        have hfd : Hid (validQ s m d = (decide (0 < m.length) && !(nv d == 1) && (Nat.gcd (nv m) (nv d) == 1))) := hid (by rw [hf.out, decide_eq_false h0]; rfl)
        clear hf
        go_enter Tryz.func108, Tryz.ntmps108
        go_wp2_with fail
        refine (ivalid X W s ao c m hmW (by omega)).mono ?_
        rintro e' w1 ⟨hE1, rfl⟩
        rw [hv'.out]
        have b1 := b0.ext0 hE1
        have j02 := b1.cell 2 rfl
        have j01 := b1.cell 1 rfl
        have hd1 := hdW.mono (NatIn.mono _) (mk_ext hE1)
        have hm1 := hmW.mono (NatIn.mono _) (mk_ext hE1)
        have hX1 := hXW.ext hE1
        have hmn : NV (mk X w1) (.slice ao m.length c) (nv m) := ⟨ao, c, m, rfl, hmc, hmd, by omega, hm1, by unfold val; rw [Canon.vl hcm.out]⟩
        have hdn : NV (mk X w1) (.slice bo d.length e) (nv d) := ⟨bo, e, d, rfl, hdc, hdd, by omega, hd1, by unfold val; rw [Canon.vl hcd.out]⟩
        clear k00 k01 k02
        have hB := hid b1
        have hEd : Ext w1 w1.drew := (ExtX.refl w1).drew
        have hXd : HX X w1.drew := hX1
        have hdnd : NV (mk X w1.drew) (.slice bo d.length e) (nv d) := hdn
        by_cases hm0 : m.length = 0
        · have hf2 : Hid (validQ s m d = false) := hid (by rw [hfd.out, decide_eq_false (by omega)]; rfl)
          obtain rfl : m = [] := List.eq_nil_of_length_eq_zero hm0
          clear hfd hm0 h0
          simp only [List.length_nil] at b1 j01 hB ⊢
          go_wp2_with fail
          refine (valid_any X _ _ _ _ hd1 (by omega)).mono ?_
          rintro e' w2 ⟨rfl, rfl⟩
          rw [hl'.out]
          go_wp2_with fail
          try go_quiet (fail)
          go_wp2_with fail
          go_ret
          exact ⟨hE.trans (hE1.trans ((ExtX.refl w1).drewN _)), ret_bool hf2.out.symm⟩
        · have hmI : ((m.length : Int) == 0) = false := beqF (by omega)
          have hfm : Hid (validQ s m d = (!(nv d == 1) && (Nat.gcd (nv m) (nv d) == 1))) := hid (by rw [hfd.out, decide_eq_true (by omega)]; rfl)
          clear hfd hm0 h0
          go_wp2_with fail
          refine (valid_any X _ _ _ _ hd1 (by omega)).mono ?_
          rintro e' w2 ⟨rfl, rfl⟩
          rw [hl'.out]
          go_wp2_with fail
          go_region_held3 (fun w' => w'.cell? ⟨b, 1, none⟩ = some (.slice ao m.length c) ∧ w'.cell? ⟨b, 2, none⟩ = some (.slice bo d.length e))
            (first | exact ⟨(hB.out.ext0 (hEd.trans hE5)).cell 1 rfl, (hB.out.ext0 (hEd.trans hE5)).cell 2 rfl⟩ | exact ⟨(hB.out.ext0 (hEd.trans (hE5.trans hE6))).cell 1 rfl, (hB.out.ext0 (hEd.trans (hE5.trans hE6))).cell 2 rfl⟩ | go_keep)
            (first | (go_at_call 157; (with_reducible refine (qone X w1.drew hXd).mono ?_); rintro e5 w5 ⟨hE5, u5, rfl, hu5⟩; have hu5n := hu5.nv (by rw [lg_one]; decide)) | (go_at_call 145; (with_reducible refine (ncmp (mkx NV.mono hdnd hE5) hu5n).mono ?_); rintro e6 w6 ⟨hE6, rfl⟩))
          have hE6' := hEd.trans (hE5.trans hE6)
          have b6 := hB.out.ext0 hE6'
          have hm6 := mkx NV.mono hmn hE6'
          have hd6 := mkx NV.mono hdn hE6'
          have hX6 := hX1.ext hE6'
          clear j01 j02
          have j01 := b6.cell 1 rfl
          have j02 := b6.cell 2 rfl
          rw [cmpN_eq0]
          by_cases h1 : nv d = 1
          · have hf2 : Hid (validQ s m d = false) := hid (by rw [hfm.out, h1]; rfl)
            have hI1 : decide (nv d = 1) = true := decide_eq_true h1
            rw [hI1]
            clear h1 hI1 hfm
            go_wp2_with fail
            go_ret
            exact ⟨hE.trans (hE1.trans hE6'), ret_bool hf2.out.symm⟩
          · have hf2 : Hid (validQ s m d = decide (Nat.gcd (nv m) (nv d) = 1)) := hid (by
              rw [hfm.out, Bool.eq_iff_iff]; simp [h1])
            have hI1 : decide (nv d = 1) = false := decide_eq_false h1
            rw [hI1]
            clear h1 hI1 hfm
            go_wp2_with fail
            refine (ngcd hX6 hm6 hd6).mono ?_
            rintro e7 w7 ⟨hE7, u7, rfl, hu7⟩
            have hX7 := hX6.ext hE7
            have hg7 : lg (Nat.gcd (nv m) (nv d)) ≤ 1099511627776 := by
              have h1 : Nat.gcd (nv m) (nv d) ≤ nv d ∨ nv d = 0 := by
                by_cases h : nv d = 0
                · exact .inr h
                · exact .inl (Nat.gcd_le_right _ (by omega))
              rcases h1 with h1 | h1
              · exact Nat.le_trans (lg_mono h1) hdn.lg
              · rw [h1, Nat.gcd_zero_right]; exact hmn.lg
            have hg7' := hid hg7
            clear j01 j02 hg7
            go_wp2_with fail
            refine (qone X w7 hX7).mono ?_
            rintro e8 w8 ⟨hE8, u8, rfl, hu8⟩
            have h7n := mkx NV.mono (hu7.nv hg7'.out) hE8
            go_wp2_with fail
            refine (ncmp h7n (hu8.nv (by rw [lg_one]; decide))).mono ?_
            rintro e9 w9 ⟨hE9, rfl⟩
            have hcq : Hid ((cmpN (Nat.gcd (nv m) (nv d)) 1 == 0) = validQ s m d) := hid (by rw [cmpN_eq0, hf2.out])
            generalize cmpN (Nat.gcd (nv m) (nv d)) 1 = cc at *
            go_wp2_with fail
            go_ret
            exact ⟨hE.trans (hE1.trans (hE6'.trans (hE7.trans (hE8.trans hE9)))), ret_bool hcq.out⟩

set_option maxRecDepth 100000 in
theorem qvalue (X : Nat → Bool) (w : World) (u : Value) (q : Rat) (hX : HX X w) (hu : QV (mk X w) u q) : Calls Tryz.prog 140 #[u] w (ROut X w QC q) := by
  obtain ⟨s, ao, c, m, bo, e, d, rfl, h1, h2, h3, h4, h5, h6, h7, h8, rfl⟩ := hu
  obtain ⟨W, hW, hE, b0, b1, hz⟩ := boxes2 w #[.bool s, .slice ao m.length c, .slice bo d.length e] #[.bool false, .slice none 0 0, .slice none 0 0] 31 31
  have hXW : HX (hidB X w.heap.size 2) W := hX.boxes hz
  have hs1 : Sl (NatIn .u32) 1 (mk (hidB X w.heap.size 2) W) ao m := h7.mono (NatIn.mono _) (le_boxes hE)
  have hs2 : Sl (NatIn .u32) 1 (mk (hidB X w.heap.size 2) W) bo d := h8.mono (NatIn.mono _) (le_boxes hE)
  obtain ⟨b, hb⟩ : ∃ b, w.heap.size = b := ⟨_, rfl⟩
  have hbw : w.heap.size ≤ b := by omega
  rw [hb] at b0 b1 hz hs1 hs2 hXW
  have c0 := b0.cell 0 rfl
  have c1 := b0.cell 1 rfl
  have c2 := b0.cell 2 rfl
  cases hv : validQ s m d
  · have hz0 := hid (qval_invalid hv)
    have hv' := hid hv
    clear hv
    go_enter Tryz.func140, Tryz.ntmps140
    go_wp2_with fail
    refine (qvalid (hidB X b 2) W s ao bo c e m d hXW hs1 hs2 h5 h6 h3 h4 h1 h2).mono ?_
    rintro e1 w1 ⟨hE1, rfl⟩
    rw [hv'.out]
    have b1' := b1.ext0 hE1
    clear c0 c1 c2
    go_wp2_with ((with_reducible show wpList _ _ _ (⟨_, .store _ _ _, _, _, _, _⟩ :: _) _ _); refine st_storeBox stRat rfl rfl b1' rfl rfl (one3 _ _ _ _ _ _ _) ?_; intro w2 b2 hE2)
    exact bodyPost_ret (results_box rfl rfl stRat b2 rfl) rfl ⟨ExtX.box (hE.trans hE1) hE2 (by omega), _, rfl, by rw [hz0.out]; exact QC.zero _⟩
  · have hv' := hid hv
    clear hv
    go_enter Tryz.func140, Tryz.ntmps140
    go_wp2_with fail
    refine (qvalid (hidB X b 2) W s ao bo c e m d hXW hs1 hs2 h5 h6 h3 h4 h1 h2).mono ?_
    rintro e1 w1 ⟨hE1, rfl⟩
    rw [hv'.out]
    have b0' := b0.ext0 hE1
    have b1' := b1.ext0 hE1
    clear c0 c1 c2
    have c0 := b0'.cell 0 rfl
    have c1 := b0'.cell 1 rfl
    have c2 := b0'.cell 2 rfl
    go_wp2_with ((with_reducible show wpList _ _ _ (⟨_, .store _ _ _, _, _, _, _⟩ :: _) _ _); refine st_storeBox stRat rfl rfl b1' rfl rfl (one3 _ _ _ _ _ _ _) ?_; intro w2 b2 hE2)
    have hs3 := ((hs1.mono (NatIn.mono _) (mk_ext hE1)).mono (NatIn.mono _) (le_store hE2 (by omega) (by omega))).mono (NatIn.mono _) le_unbox
    have hs4 := ((hs2.mono (NatIn.mono _) (mk_ext hE1)).mono (NatIn.mono _) (le_store hE2 (by omega) (by omega))).mono (NatIn.mono _) le_unbox
    exact bodyPost_ret (results_box rfl rfl stRat b2 rfl) rfl ⟨ExtX.box (hE.trans hE1) hE2 (by omega), _, rfl, s, ao, c, m, bo, e, d, rfl, h1, h2, CanQ.of_valid h3 h4 hv'.out, hs3, hs4⟩
end Go.Proofs.YtjbhcniiioepgaaGreat

namespace Go.Proofs.YtjbhcniiioepgaaGreat
open Go.RowKit Go.Rep Go.Lim

theorem _root_.Go.Rep.NC.asZ {M : Mem} {u : Value} {n : Nat} (hu : NC M u n) (hn : lg n ≤ 549755813888) : ∃ ao k c, u = .slice ao k c ∧ ZV M (.agg #[.bool false, .slice ao k c]) (n : Int) := by
  obtain ⟨ao, c, l, rfl, h1, h2, h3⟩ := hu
  refine ⟨ao, _, c, rfl, false, ao, c, l, rfl, h1, h2.1, by rw [h2.len]; exact hn, h3, ?_⟩
  unfold zval validZ
  rw [h2.2.1, h2.2.2]; simp

/-- Two boxes of three cells stored anew, as the walk writes it. -/
theorem two_stores3 {X : Nat → Bool} {w w6 : World} {b nb : Nat} {x0 x1 x2 y0 y1 y2 : Value} {T U : TypeId} (h0 : Bx w6 b #[x0, x1, x2] T) (h1 : Bx w6 (b + 1) #[y0, y1, y2] U) (hE : Ext w w6) (hb : w.heap.size ≤ b) (hn : 2 ≤ nb) (v0 v1 v2 u0 u1 u2 : Value) :
    ∃ wf, ((((((w6.setCell ⟨b, 0, none⟩ v0).setCell ⟨b, 1, none⟩ v1).setCell ⟨b, 2, none⟩ v2).setCell ⟨b + 1, 0, none⟩ u0).setCell ⟨b + 1, 1, none⟩ u1).setCell ⟨b + 1, 2, none⟩ u2) = wf ∧ Bx wf b #[v0, v1, v2] T ∧ Bx wf (b + 1) #[u0, u1, u2] U ∧ (∀ k cs V, k ≠ b → k ≠ b + 1 → Bx w6 k cs V → Bx wf k cs V) ∧ Ext w wf ∧ Le (mk (hidB X b nb) w6) (mk (hidB X b nb) wf) := by
  obtain ⟨r1, r2⟩ := h0.set3 v0 v1 v2
  have h1' := h1.ext r2 (ob_other (by omega))
  obtain ⟨r3, r4⟩ := h1'.set3 u0 u1 u2
  refine ⟨_, rfl, r1.ext r4 (ob_other (by omega)), r3, fun k cs V k1 k2 h => (h.ext r2 (ob_other k1)).ext r4 (ob_other k2), ExtX.box (ExtX.box hE r2 hb) r4 (by omega), (le_store r2 (Nat.le_refl _) (by omega)).trans (le_store r4 (by omega) (by omega))⟩

theorem qtimes (X : Nat → Bool) (w : World) (u v : Value) (x : Int) (n : Nat) (hX : HX X w) (hu : ZC (mk X w) u x) (hv : NC (mk X w) v n) (hx : lg x.natAbs ≤ 549755813888) (hn : lg n ≤ 549755813888) : Calls Tryz.prog 164 #[u, v] w (ROut X w ZC (x * n)) := by
  obtain ⟨bo, k, e, rfl, hv2⟩ := hv.asZ hn
  have huz := hu.zv hx
  obtain ⟨s, ao, c, l, rfl, h1, h2, h3⟩ := hu
  obtain ⟨W, hW, hE, b0, b1, hz⟩ := boxes2 w #[.bool s, .slice ao l.length c] #[.bool false, .slice none 0 0] 29 29
  have hXW : HX (hidB X w.heap.size 2) W := hX.boxes hz
  have hu1 := ZV.mono _ _ _ _ (le_boxes (nb := 2) hE) huz
  have hv1 := ZV.mono _ _ _ _ (le_boxes (nb := 2) hE) hv2
  obtain ⟨b, hb⟩ : ∃ b, w.heap.size = b := ⟨_, rfl⟩
  have hbw : w.heap.size ≤ b := by omega
  rw [hb] at b0 b1 hz hXW hu1 hv1
  have c0 := b0.cell 0 rfl
  have c1 := b0.cell 1 rfl
  clear hx hn
  go_enter Tryz.func164, Tryz.ntmps164
  go_wp2_with fail
  refine (imul (hidB X b 2) W _ _ _ _ hXW hu1 hv1).mono ?_
  rintro e1 w1 ⟨hE1, u1, rfl, s6, a6, c6, l6, rfl, h61, h62, h63⟩
  have b1' := b1.ext0 hE1
  clear c0 c1
  go_wp2_with ((with_reducible show wpList _ _ _ (⟨_, .store _ _ _, _, _, _, _⟩ :: _) _ _); refine st_storeBox stInt rfl rfl b1' rfl rfl (one2 _ _ _ _) ?_; intro w7 r1 r2)
  have h7 := (h63.mono (NatIn.mono _) (le_store r2 (by omega) (by omega))).mono (NatIn.mono _) le_unbox
  exact bodyPost_ret (results_box rfl rfl stInt r1 rfl) rfl ⟨ExtX.box (hE.trans hE1) r2 (by omega), _, rfl, s6, a6, c6, l6, rfl, h61, h62, h7⟩

set_option maxRecDepth 100000 in
theorem qlowest (X : Nat → Bool) (w : World) (u v : Value) (z : Int) (k : Nat) (hX : HX X w) (hu : ZC (mk X w) u z) (hv : NC (mk X w) v k) (hz : lg z.natAbs ≤ 549755813888) (hk : lg k ≤ 549755813888) (hk0 : 0 < k) : Calls Tryz.prog 151 #[u, v] w (ROut X w QC (mkRat z k)) := by
  obtain ⟨s, ao, c, l, rfl, h1, h2, h3⟩ := hu
  have hvn := hv.nv (by omega : lg k ≤ 1099511627776)
  obtain ⟨bo, e, m, rfl, g1, g2, g3⟩ := hv
  obtain ⟨W, hW, hE, b0, b1, hzz⟩ := boxes2 w #[.bool s, .slice ao l.length c] #[.bool false, .slice none 0 0, .slice none 0 0] 29 31
  have hXW : HX (hidB X w.heap.size 2) W := hX.boxes hzz
  have hu1 : NV (mk (hidB X w.heap.size 2) W) (.slice ao l.length c) z.natAbs := NC.nv ⟨ao, c, l, rfl, h1, h2.2, h3.mono (NatIn.mono _) (le_boxes hE)⟩ (by omega)
  have hv1 := NV.mono _ _ _ _ (le_boxes (nb := 2) hE) hvn
  obtain ⟨b, hb⟩ : ∃ b, w.heap.size = b := ⟨_, rfl⟩
  have hbw : w.heap.size ≤ b := by omega
  rw [hb] at b0 b1 hzz hXW hu1 hv1
  have c0 := b0.cell 0 rfl
  have c1 := b0.cell 1 rfl
  obtain ⟨g, hg⟩ : ∃ g, Nat.gcd z.natAbs k = g := ⟨_, rfl⟩
  have hg0 : Hid (0 < g) := hid (by rw [← hg]; exact Nat.gcd_pos_of_pos_right _ hk0)
  have hgl : Hid (lg g ≤ 1099511627776) := hid (by rw [← hg]; exact Nat.le_trans (lg_mono (Nat.gcd_le_right _ hk0)) (by omega))
  have hlow := hid (fun (n d : List Nat) (hn : Canon n (z.natAbs / g)) (hd : Canon d (k / g)) => by
    have := CanQ.lowest (s := s) (z := z) (k := k) (n := n) (d := d) (by omega) h2.1 (by rw [hg]; exact hn) (by rw [hg]; exact hd)
    rw [hg] at this; exact this)
  have hdl : Hid (lg (k / g) ≤ 1099511627776) := hid (Nat.le_trans (lg_mono (Nat.div_le_self _ _)) (by omega))
  have hg' := hid hg
  clear hz hk hk0 h2 g2 hvn hg
  go_enter Tryz.func151, Tryz.ntmps151
  go_wp2_with fail
  refine (ngcd hXW hu1 hv1).mono ?_
  rintro e1 w1 ⟨hE1, ug, rfl, hug⟩
  rw [hg'.out] at hug
  have hX1 := hXW.ext hE1
  have b01 := b0.ext0 hE1
  have j0 := b01.cell 0 rfl
  have j1 := b01.cell 1 rfl
  clear c0 c1
  go_wp2_with fail
  refine (ndiv hX1 (mkx NV.mono hu1 hE1) (hug.nv hgl.out) hg0.out).mono ?_
  rintro e2 w2 ⟨hE2, qu, ru, rfl, hqu, hru⟩
  have hX2 := hX1.ext hE2
  have b02 := b01.ext0 hE2
  clear j0 j1
  go_wp2_with fail
  refine (ndiv hX2 (mkx NV.mono hv1 (hE1.trans hE2)) (mkx NV.mono (hug.nv hgl.out) hE2) hg0.out).mono ?_
  rintro e3 w3 ⟨hE3, du, ru2, rfl, hdu, hru2⟩
  have hX3 := hX2.ext hE3
  go_wp2_with fail
  refine (qone (hidB X b 2) w3 hX3).mono ?_
  rintro e4 w4 ⟨hE4, ou, rfl, hou⟩
  go_wp2_with fail
  refine (ncmp (mkx NV.mono (hdu.nv hdl.out) hE4) (hou.nv (by rw [lg_one]; decide))).mono ?_
  rintro e5 w5 ⟨hE5, rfl⟩
  have hcq : Hid ((cmpN (k / g) 1 == 0) = decide (k / g = 1)) := hid (cmpN_eq0 _ _)
  have hqu5 := mkx NC.mono hqu (hE3.trans (hE4.trans hE5))
  have hdu5 := mkx NC.mono hdu (hE4.trans hE5)
  have hEE := hE2.trans (hE3.trans (hE4.trans hE5))
  have b05 := b01.ext0 hEE
  have b15 := b1.ext0 (hE1.trans hEE)
  have j0 := b05.cell 0 rfl
  have j1 := b05.cell 1 rfl
  obtain ⟨qa, qc, ql, rfl, q1, q2, q3⟩ := hqu5
  obtain ⟨da, dc, dl, rfl, d1, d2, d3⟩ := hdu5
  have hfin := hid (hlow.out ql dl q2 d2)
  have hEf := hE.trans (hE1.trans hEE)
  clear hqu hdu hru hru2 hou hug hlow q2 d2
  by_cases h1' : k / g = 1
  · have hf := hfin.out
    rw [if_pos h1'] at hf
    have hI : (cmpN (k / g) 1 == 0) = true := by rw [hcq.out]; exact decide_eq_true h1'
    generalize cmpN (k / g) 1 = cc at *
    clear hcq h1' hfin
    go_wp2_with ((with_reducible show wpList _ _ _ (⟨_, .store _ _ _, _, _, _, _⟩ :: _) _ _); refine st_storeBox stRat rfl rfl b15 rfl rfl (one3 _ _ _ _ _ _ _) ?_; intro w7 r1 r2)
    have h7 := (q3.mono (NatIn.mono _) (le_store r2 (by omega) (by omega))).mono (NatIn.mono _) le_unbox
    exact bodyPost_ret (results_box rfl rfl stRat r1 rfl) rfl ⟨ExtX.box hEf r2 (by omega), _, rfl, s, qa, qc, ql, none, 0, [], rfl, q1, Nat.le_refl _, hf, h7, Sl.nil _ _ _ _⟩
  · have hf := hfin.out
    rw [if_neg h1'] at hf
    have hI : (cmpN (k / g) 1 == 0) = false := by rw [hcq.out]; exact decide_eq_false h1'
    generalize cmpN (k / g) 1 = cc at *
    clear hcq h1' hfin
    go_wp2_with ((with_reducible show wpList _ _ _ (⟨_, .store _ _ _, _, _, _, _⟩ :: _) _ _); refine st_storeBox stRat rfl rfl b15 rfl rfl (one3 _ _ _ _ _ _ _) ?_; intro w7 r1 r2)
    have h7 := (q3.mono (NatIn.mono _) (le_store r2 (by omega) (by omega))).mono (NatIn.mono _) le_unbox
    have h8 := (d3.mono (NatIn.mono _) (le_store r2 (by omega) (by omega))).mono (NatIn.mono _) le_unbox
    exact bodyPost_ret (results_box rfl rfl stRat r1 rfl) rfl ⟨ExtX.box hEf r2 (by omega), _, rfl, s, qa, qc, ql, da, dc, dl, rfl, q1, d1, hf, h7, h8⟩

theorem qfrom (X : Nat → Bool) (w : World) (v : Int) (hX : HX X w) (h1 : -9223372036854775808 ≤ v) (h2 : v ≤ 9223372036854775807) : Calls Tryz.prog 97 #[.int .i64 v] w (ROut X w QC v) := by
  obtain ⟨W, hW, hE, b0, hz⟩ := boxes1 w #[.bool false, .slice none 0 0, .slice none 0 0] 31
  have hXW : HX (hidB X w.heap.size 1) W := hX.boxes hz
  obtain ⟨b, hb⟩ : ∃ b, w.heap.size = b := ⟨_, rfl⟩
  have hbw : w.heap.size ≤ b := by omega
  rw [hb] at b0 hz hXW
  have h1' := hid h1
  have h2' := hid h2
  clear h1 h2
  go_enter Tryz.func97, Tryz.ntmps97
  go_wp2_with fail
  refine (ifrom (hidB X b 1) W v hXW h1'.out h2'.out).mono ?_
  rintro e1 w1 ⟨hE1, u1, rfl, s6, a6, c6, l6, rfl, h61, h62, h63⟩
  have b1' := b0.ext0 hE1
  have hcq := CanQ.ofInt h62
  go_wp2_with ((with_reducible show wpList _ _ _ (⟨_, .store _ _ _, _, _, _, _⟩ :: _) _ _); refine st_storeBox stRat rfl rfl b1' rfl rfl (one3 _ _ _ _ _ _ _) ?_; intro w7 r1 r2)
  have h7 := (h63.mono (NatIn.mono _) (le_store r2 (by omega) (by omega))).mono (NatIn.mono _) le_unbox
  exact bodyPost_ret (results_box rfl rfl stRat r1 rfl) rfl ⟨ExtX.box (hE.trans hE1) r2 (by omega), _, rfl, s6, a6, c6, l6, none, 0, [], rfl, h61, Nat.le_refl _, hcq, h7, Sl.nil _ _ _ _⟩
end Go.Proofs.YtjbhcniiioepgaaGreat

namespace Go.Proofs.YtjbhcniiioepgaaGreat
open Go.RowKit Go.Rep Go.Lim

set_option maxRecDepth 100000 in
set_option maxHeartbeats 1600000 in
theorem qadd (X : Nat → Bool) (w : World) (u v : Value) (x y : Rat) (hX : HX X w) (hu : QV (mk X w) u x) (hv : QV (mk X w) v y) : Calls Tryz.prog 110 #[u, v] w (ROut X w QC (x + y)) := by
  have hlx := hid hu.hq
  have hly := hid hv.hq
  obtain ⟨s1, a1, n1, c1, d1, k1, e1, rfl⟩ := hu.shape
  obtain ⟨s2, a2, n2, c2, d2, k2, e2, rfl⟩ := hv.shape
  obtain ⟨W, hW, hE, b0, b1, b2, hz⟩ := boxes3 w #[.bool s1, .slice a1 n1 c1, .slice d1 k1 e1] #[.bool s2, .slice a2 n2 c2, .slice d2 k2 e2] #[.bool false, .slice none 0 0, .slice none 0 0] 31 31 31
  have hXW : HX (hidB X w.heap.size 3) W := hX.boxes hz
  have hu1 := QV.mono _ _ _ _ (le_boxes (nb := 3) hE) hu
  have hv1 := QV.mono _ _ _ _ (le_boxes (nb := 3) hE) hv
  obtain ⟨b, hb⟩ : ∃ b, w.heap.size = b := ⟨_, rfl⟩
  have hbw : w.heap.size ≤ b := by omega
  rw [hb] at b0 b1 b2 hz hXW hu1 hv1
  have hEd : Ext W W.drew := (ExtX.refl W).drew
  have hXd : HX (hidB X b 3) W.drew := hXW
  have hud : QV (mk (hidB X b 3) W.drew) (.agg #[.bool s1, .slice a1 n1 c1, .slice d1 k1 e1]) x := hu1
  have hvd : QV (mk (hidB X b 3) W.drew) (.agg #[.bool s2, .slice a2 n2 c2, .slice d2 k2 e2]) y := hv1
  have k00 := b0.cell 0 rfl
  have k01 := b0.cell 1 rfl
  have k02 := b0.cell 2 rfl
  have k10 := b1.cell 0 rfl
  have k11 := b1.cell 1 rfl
  have k12 := b1.cell 2 rfl
  clear hu hv
  go_enter Tryz.func110, Tryz.ntmps110
  go_upto_region 1 with (fail)
  go_cut [] from 5 to 8 (fun wx => ∃ s3 a3 n3 c3 d3 k3 e3 s4 a4 n4 c4 d4 k4 e4, Bx wx b #[.bool s3, .slice a3 n3 c3, .slice d3 k3 e3] 31 ∧ Bx wx (b + 1) #[.bool s4, .slice a4 n4 c4, .slice d4 k4 e4] 31 ∧ Bx wx (b + 1 + 1) #[.bool false, .slice none 0 0, .slice none 0 0] 31 ∧ QC (mk (hidB X b 3) wx) (.agg #[.bool s3, .slice a3 n3 c3, .slice d3 k3 e3]) x ∧ QC (mk (hidB X b 3) wx) (.agg #[.bool s4, .slice a4 n4 c4, .slice d4 k4 e4]) y ∧ Ext w wx)
  case first =>
    go_region_with (first | (go_at_call 140; (with_reducible refine (qvalue (hidB X b 3) W.drew _ x hXd hud).mono ?_); rintro ee w5 ⟨hE5, u5, rfl, hq5⟩; obtain ⟨s5, a5, n5, c5, d5, k5, e5, rfl⟩ := hq5.shape; have bb0 := b0.ext0 (hEd.trans hE5); have bb1 := b1.ext0 (hEd.trans hE5); have e00 := bb0.cell 0 rfl; have e01 := bb0.cell 1 rfl; have e02 := bb0.cell 2 rfl; have e10 := bb1.cell 0 rfl; have e11 := bb1.cell 1 rfl; have e12 := bb1.cell 2 rfl) | (go_at_call 140; (with_reducible refine (qvalue (hidB X b 3) w5 _ y (HX.ext hXd hE5) (mkx QV.mono hvd hE5)).mono ?_); rintro ee w6 ⟨hE6, u6, rfl, hq6⟩; obtain ⟨s6, a6, n6, c6, d6, k6, e6, rfl⟩ := hq6.shape; have bb2 := bb0.ext0 hE6; have bb3 := bb1.ext0 hE6; have g00 := bb2.cell 0 rfl; have g01 := bb2.cell 1 rfl; have g02 := bb2.cell 2 rfl; have g10 := bb3.cell 0 rfl; have g11 := bb3.cell 1 rfl; have g12 := bb3.cell 2 rfl; have fr0 := bb2.frozen 0; have fr1 := bb2.frozen 1; have fr4 := bb2.frozen 2; have fr2 := bb3.frozen 0; have fr3 := bb3.frozen 1; have fr5 := bb3.frozen 2))
    all_goals
      obtain ⟨wf, hwf, q0, q1, q2, q3, q4⟩ := two_stores3 (X := X) (nb := 3) bb2 bb3 (hE.trans ((hEd.trans hE5).trans hE6)) hbw (by omega) (.bool s5) (.slice a5 n5 c5) (.slice d5 k5 e5) (.bool s6) (.slice a6 n6 c6) (.slice d6 k6 e6)
      rw [hwf]
      have hfx : QC (mk (hidB X b 3) wf) (.agg #[.bool s5, .slice a5 n5 c5, .slice d5 k5 e5]) x := QC.mono _ _ _ _ q4 (mkx QC.mono hq5 hE6)
      have hfy : QC (mk (hidB X b 3) wf) (.agg #[.bool s6, .slice a6 n6 c6, .slice d6 k6 e6]) y := QC.mono _ _ _ _ q4 hq6
      have q5 := q2 (b + 1 + 1) _ _ (by omega) (by omega) ((b2.ext0 (hEd.trans hE5)).ext0 hE6)
      clear e00 e01 e02 e10 e11 e12 g00 g01 g02 g10 g11 g12 fr0 fr1 fr2 fr3 fr4 fr5 k00 k01 k02 k10 k11 k12 hwf
      go_wp2_with fail
      go_meet
      exact ⟨_, _, _, _, _, _, _, _, _, _, _, _, _, _, q0, q1, q5, hfx, hfy, q3⟩
  case rest =>
    clear k00 k01 k02 k10 k11 k12 b0 b1 b2 hu1 hv1 hud hvd hXd hEd hW
    obtain ⟨s3, a3, n3, c3, d3, k3, e3, s4, a4, n4, c4, d4, k4, e4, b0, b1, b2, hx, hy, hE1⟩ := hcut
    have hzz : w.heap.size + 3 ≤ wc.heap.size := by have := b2.lt; omega
    obtain ⟨hxz, hxm, hxdn⟩ := hx.num
    obtain ⟨hyz, hym, hydn⟩ := hy.num
    have hXc : HX (hidB X b 3) wc := hX.boxes' hE1 (by have := hzz; omega) hzz
    have k00 := b0.cell 0 rfl
    have k01 := b0.cell 1 rfl
    have k02 := b0.cell 2 rfl
    have k10 := b1.cell 0 rfl
    have k11 := b1.cell 1 rfl
    have k12 := b1.cell 2 rfl
    have hEd : Ext wc wc.drew := (ExtX.refl wc).drew
    have hXd : HX (hidB X b 3) wc.drew := hXc
    have hxd : QC (mk (hidB X b 3) wc.drew) (.agg #[.bool s3, .slice a3 n3 c3, .slice d3 k3 e3]) x := hx
    have hyd : QC (mk (hidB X b 3) wc.drew) (.agg #[.bool s4, .slice a4 n4 c4, .slice d4 k4 e4]) y := hy
    have hxzd : ZC (mk (hidB X b 3) wc.drew) (.agg #[.bool s3, .slice a3 n3 c3]) x.num := hxz
    have hyzd : ZC (mk (hidB X b 3) wc.drew) (.agg #[.bool s4, .slice a4 n4 c4]) y.num := hyz
    have bxn : lg x.num.natAbs ≤ 549755813888 := Nat.le_trans (Nat.le_trans (hq_num x) hlx.out) (by omega)
    have byn : lg y.num.natAbs ≤ 549755813888 := Nat.le_trans (Nat.le_trans (hq_num y) hly.out) (by omega)
    have bxd : lg x.den ≤ 549755813888 := Nat.le_trans (Nat.le_trans (hq_den x) hlx.out) (by omega)
    have byd : lg y.den ≤ 549755813888 := Nat.le_trans (Nat.le_trans (hq_den y) hly.out) (by omega)
    have bp1 : lg (x.num * (y.den : Int)).natAbs ≤ 274877906944 := by rw [Int.natAbs_mul, Int.natAbs_natCast]; have := lg_mul x.num.natAbs y.den; have := hq_num x; have := hq_den y; have := hlx.out; have := hly.out; omega
    have bp2 : lg (y.num * (x.den : Int)).natAbs ≤ 274877906944 := by rw [Int.natAbs_mul, Int.natAbs_natCast]; have := lg_mul y.num.natAbs x.den; have := hq_num y; have := hq_den x; have := hlx.out; have := hly.out; omega
    have bdd : lg (x.den * y.den) ≤ 274877906944 := by have := lg_mul x.den y.den; have := hq_den x; have := hq_den y; have := hlx.out; have := hly.out; omega
    have bnn : lg (x.num * y.num).natAbs ≤ 274877906944 := by rw [Int.natAbs_mul]; have := lg_mul x.num.natAbs y.num.natAbs; have := hq_num x; have := hq_num y; have := hlx.out; have := hly.out; omega
    have bd0 : 0 < x.den * y.den := Nat.mul_pos x.den_pos y.den_pos
    have hB := hid (And.intro b0 b1)
    have hS : Hid (∀ W', Ext wc.drew W' → W'.cell? ⟨b, 0, none⟩ = some (.bool s3) ∧ W'.cell? ⟨b, 1, none⟩ = some (.slice a3 n3 c3) ∧ W'.cell? ⟨b, 2, none⟩ = some (.slice d3 k3 e3) ∧ W'.cell? ⟨b + 1, 0, none⟩ = some (.bool s4) ∧ W'.cell? ⟨b + 1, 1, none⟩ = some (.slice a4 n4 c4) ∧ W'.cell? ⟨b + 1, 2, none⟩ = some (.slice d4 k4 e4)) :=
      hid fun W' h => ⟨(b0.ext0 (hEd.trans h)).cell 0 rfl, (b0.ext0 (hEd.trans h)).cell 1 rfl, (b0.ext0 (hEd.trans h)).cell 2 rfl, (b1.ext0 (hEd.trans h)).cell 0 rfl, (b1.ext0 (hEd.trans h)).cell 1 rfl, (b1.ext0 (hEd.trans h)).cell 2 rfl⟩
    have hl3 := hxdn.len0
    have hl4 := hydn.len0
    rw [dn_zero] at hl3 hl4
    have bsum : lg (x.num * (y.den : Int) + y.num * (x.den : Int)).natAbs ≤ 549755813888 := by
      have h1 := lg_mono (Int.natAbs_add_le (x.num * (y.den : Int)) (y.num * (x.den : Int)))
      have h2 := lg_add (x.num * (y.den : Int)).natAbs (y.num * (x.den : Int)).natAbs
      omega
    have hfin : Hid (mkRat (x.num * (y.den : Int) + y.num * (x.den : Int)) (x.den * y.den) = x + y) := hid (Rat.add_def' x y).symm
    by_cases hk : k3 = 0 ∧ k4 = 0
    · have hd3 := hid (hl3.1 hk.1)
      have hd4 := hid (hl4.1 hk.2)
      obtain ⟨rfl, rfl⟩ := hk
      have hsum : Hid (((x.num + y.num : Int) : Rat) = x + y) := hid (by
        rw [Rat.intCast_add]
        conv => rhs; rw [← Rat.mkRat_self x, ← Rat.mkRat_self y]
        rw [hd3.out, hd4.out, ← Rat.mk_den_one, ← Rat.mk_den_one, Rat.mk_eq_mkRat, Rat.mk_eq_mkRat])
      clear hl3 hl4
      go_wp2_with fail
      refine (iadd (hidB X b 3) wc _ _ _ _ hXc (hxz.zv bxn) (hyz.zv byn)).mono ?_
      rintro ee w5 ⟨hE5, u5, rfl, s6, a6, c6, l6, rfl, h61, h62, h63⟩
      have b2' := b2.ext0 hE5
      have hcq := CanQ.ofInt h62
      rw [hsum.out] at hcq
      clear k00 k01 k02 k10 k11 k12
      go_wp2_with ((with_reducible show wpList _ _ _ (⟨_, .store _ _ _, _, _, _, _⟩ :: _) _ _); refine st_storeBox stRat rfl rfl b2' rfl rfl (one3 _ _ _ _ _ _ _) ?_; intro w7 r1 r2)
      have h7 := (h63.mono (NatIn.mono _) (le_store r2 (by omega) (by omega))).mono (NatIn.mono _) le_unbox
      exact bodyPost_ret (results_box rfl rfl stRat r1 rfl) rfl ⟨ExtX.box (hE1.trans hE5) r2 (by omega), _, rfl, s6, a6, c6, l6, none, 0, [], rfl, h61, Nat.le_refl _, hcq, h7, Sl.nil _ _ _ _⟩
    · have hk3 : Hid (¬ (k3 = 0 ∧ k4 = 0)) := hid hk
      rcases (by omega : ¬ k3 = 0 ∨ (k3 = 0 ∧ ¬ k4 = 0)) with h3 | ⟨h3, h4⟩
      · have hI : ((k3 : Int) == 0) = false := beqF (by omega)
        clear hk hl3 hl4 h3
        go_wp2_with fail
        go_region_held3 (fun w' => w'.cell? ⟨b, 0, none⟩ = some (.bool s3) ∧ w'.cell? ⟨b, 1, none⟩ = some (.slice a3 n3 c3) ∧ w'.cell? ⟨b, 2, none⟩ = some (.slice d3 k3 e3) ∧ w'.cell? ⟨b + 1, 0, none⟩ = some (.bool s4) ∧ w'.cell? ⟨b + 1, 1, none⟩ = some (.slice a4 n4 c4) ∧ w'.cell? ⟨b + 1, 2, none⟩ = some (.slice d4 k4 e4))
          (first | exact hS.out _ t1 | exact hS.out _ t2 | exact hS.out _ t3 | exact hS.out _ t4 | exact hS.out _ t5 | exact hS.out _ t6 | exact hS.out _ t7 | exact hS.out _ t8 | exact hS.out _ t9 | exact ⟨((hB.out.1.ext0 (hEd.trans t9)).ext (bb2.set3 _ _ _).2 (ob_other (by omega))).cell 0 rfl, ((hB.out.1.ext0 (hEd.trans t9)).ext (bb2.set3 _ _ _).2 (ob_other (by omega))).cell 1 rfl, ((hB.out.1.ext0 (hEd.trans t9)).ext (bb2.set3 _ _ _).2 (ob_other (by omega))).cell 2 rfl, ((hB.out.2.ext0 (hEd.trans t9)).ext (bb2.set3 _ _ _).2 (ob_other (by omega))).cell 0 rfl, ((hB.out.2.ext0 (hEd.trans t9)).ext (bb2.set3 _ _ _).2 (ob_other (by omega))).cell 1 rfl, ((hB.out.2.ext0 (hEd.trans t9)).ext (bb2.set3 _ _ _).2 (ob_other (by omega))).cell 2 rfl⟩ | go_keep)
          (first | (go_at_call 153; (with_reducible refine (qden (hidB X b 3) wc.drew _ y hXd hyd).mono ?_); rintro ee w5 ⟨t1, u5, rfl, hu5⟩; have hX5 := HX.ext hXd t1; have hx5 := mkx ZC.mono hxzd t1) | (go_at_call 164; (with_reducible refine (qtimes (hidB X b 3) w5 _ _ x.num y.den hX5 hx5 hu5 bxn byd).mono ?_); rintro ee w6 ⟨hE6, u6, rfl, hu6⟩; have t2 := t1.trans hE6; have hX6 := HX.ext hXd t2; have hx6 := mkx QC.mono hxd t2) | (go_at_call 153; (with_reducible refine (qden (hidB X b 3) w6 _ x hX6 hx6).mono ?_); rintro ee w7 ⟨hE7, u7, rfl, hu7⟩; have t3 := t2.trans hE7; have hX7 := HX.ext hXd t3; have hy7 := mkx ZC.mono hyzd t3) | (go_at_call 164; (with_reducible refine (qtimes (hidB X b 3) w7 _ _ y.num x.den hX7 hy7 hu7 byn bxd).mono ?_); rintro ee w8 ⟨hE8, u8, rfl, hu8⟩; have t4 := t3.trans hE8; have hX8 := HX.ext hXd t4; have hz6 := (mkx ZC.mono hu6 (hE7.trans hE8)).zv (Nat.le_trans bp1 (by decide)); have hz8 := hu8.zv (Nat.le_trans bp2 (by decide))) | (go_at_call 163; (with_reducible refine (iadd (hidB X b 3) w8 _ _ _ _ hX8 hz6 hz8).mono ?_); rintro ee w9 ⟨hE9, u9, rfl, hu9⟩; have t5 := t4.trans hE9; have hX9 := HX.ext hXd t5; have hx9 := mkx QC.mono hxd t5) | (go_at_call 153; (with_reducible refine (qden (hidB X b 3) w9 _ x hX9 hx9).mono ?_); rintro ee w10 ⟨hE10, u10, rfl, hu10⟩; have t6 := t5.trans hE10; have hX10 := HX.ext hXd t6; have hy10 := mkx QC.mono hyd t6) | (go_at_call 153; (with_reducible refine (qden (hidB X b 3) w10 _ y hX10 hy10).mono ?_); rintro ee w11 ⟨hE11, u11, rfl, hu11⟩; have t7 := t6.trans hE11; have hX11 := HX.ext hXd t7; have hm10 := (mkx NC.mono hu10 hE11).nv (Nat.le_trans bxd (by decide)); have hm11 := hu11.nv (Nat.le_trans byd (by decide))) | (go_at_call 152; (with_reducible refine (nmul hX11 hm10 hm11).mono ?_); rintro ee w12 ⟨hE12, u12, rfl, hu12⟩; have t8 := t7.trans hE12; have hX12 := HX.ext hXd t8; have hz9 := mkx ZC.mono hu9 (hE10.trans (hE11.trans hE12))) | (go_at_call 151; (with_reducible refine (qlowest (hidB X b 3) w12 _ _ _ _ hX12 hz9 hu12 bsum (Nat.le_trans bdd (by decide)) bd0).mono ?_); rintro ee w13 ⟨hE13, u13, rfl, hu13⟩; obtain ⟨s13, a13, n13, c13, d13, k13, e13, rfl⟩ := hu13.shape; have t9 := t8.trans hE13; have bb2 := b2.ext0 (hEd.trans t9); have g0 := bb2.cell 0 rfl; have g1 := bb2.cell 1 rfl; have g2 := bb2.cell 2 rfl; have f0 := bb2.frozen 0; have f1 := bb2.frozen 1; have f2 := bb2.frozen 2))
        obtain ⟨r1, r2⟩ := bb2.set3 (.bool s13) (.slice a13 n13 c13) (.slice d13 k13 e13)
        have h7 := QC.mono _ _ _ _ le_unbox (QC.mono _ _ _ _ (le_store r2 (by omega) (by omega)) hu13)
        rw [hfin.out] at h7
        have hEf : Ext w _ := ExtX.box (hE1.trans (hEd.trans t9)) r2 (by omega)
        clear g0 g1 g2 f0 f1 f2 k00 k01 k02 k10 k11 k12 hS hB
        go_wp2_with fail
        exact bodyPost_ret (results_box rfl rfl stRat r1 rfl) rfl ⟨hEf, _, rfl, h7⟩
      · have hI : ((k4 : Int) == 0) = false := beqF (by omega)
        subst h3
        clear hk hl3 hl4 h4
        go_wp2_with fail
        go_region_held3 (fun w' => w'.cell? ⟨b, 0, none⟩ = some (.bool s3) ∧ w'.cell? ⟨b, 1, none⟩ = some (.slice a3 n3 c3) ∧ w'.cell? ⟨b, 2, none⟩ = some (.slice d3 0 e3) ∧ w'.cell? ⟨b + 1, 0, none⟩ = some (.bool s4) ∧ w'.cell? ⟨b + 1, 1, none⟩ = some (.slice a4 n4 c4) ∧ w'.cell? ⟨b + 1, 2, none⟩ = some (.slice d4 k4 e4))
          (first | exact hS.out _ t1 | exact hS.out _ t2 | exact hS.out _ t3 | exact hS.out _ t4 | exact hS.out _ t5 | exact hS.out _ t6 | exact hS.out _ t7 | exact hS.out _ t8 | exact hS.out _ t9 | exact ⟨((hB.out.1.ext0 (hEd.trans t9)).ext (bb2.set3 _ _ _).2 (ob_other (by omega))).cell 0 rfl, ((hB.out.1.ext0 (hEd.trans t9)).ext (bb2.set3 _ _ _).2 (ob_other (by omega))).cell 1 rfl, ((hB.out.1.ext0 (hEd.trans t9)).ext (bb2.set3 _ _ _).2 (ob_other (by omega))).cell 2 rfl, ((hB.out.2.ext0 (hEd.trans t9)).ext (bb2.set3 _ _ _).2 (ob_other (by omega))).cell 0 rfl, ((hB.out.2.ext0 (hEd.trans t9)).ext (bb2.set3 _ _ _).2 (ob_other (by omega))).cell 1 rfl, ((hB.out.2.ext0 (hEd.trans t9)).ext (bb2.set3 _ _ _).2 (ob_other (by omega))).cell 2 rfl⟩ | go_keep)
          (first | (go_at_call 153; (with_reducible refine (qden (hidB X b 3) wc.drew _ y hXd hyd).mono ?_); rintro ee w5 ⟨t1, u5, rfl, hu5⟩; have hX5 := HX.ext hXd t1; have hx5 := mkx ZC.mono hxzd t1) | (go_at_call 164; (with_reducible refine (qtimes (hidB X b 3) w5 _ _ x.num y.den hX5 hx5 hu5 bxn byd).mono ?_); rintro ee w6 ⟨hE6, u6, rfl, hu6⟩; have t2 := t1.trans hE6; have hX6 := HX.ext hXd t2; have hx6 := mkx QC.mono hxd t2) | (go_at_call 153; (with_reducible refine (qden (hidB X b 3) w6 _ x hX6 hx6).mono ?_); rintro ee w7 ⟨hE7, u7, rfl, hu7⟩; have t3 := t2.trans hE7; have hX7 := HX.ext hXd t3; have hy7 := mkx ZC.mono hyzd t3) | (go_at_call 164; (with_reducible refine (qtimes (hidB X b 3) w7 _ _ y.num x.den hX7 hy7 hu7 byn bxd).mono ?_); rintro ee w8 ⟨hE8, u8, rfl, hu8⟩; have t4 := t3.trans hE8; have hX8 := HX.ext hXd t4; have hz6 := (mkx ZC.mono hu6 (hE7.trans hE8)).zv (Nat.le_trans bp1 (by decide)); have hz8 := hu8.zv (Nat.le_trans bp2 (by decide))) | (go_at_call 163; (with_reducible refine (iadd (hidB X b 3) w8 _ _ _ _ hX8 hz6 hz8).mono ?_); rintro ee w9 ⟨hE9, u9, rfl, hu9⟩; have t5 := t4.trans hE9; have hX9 := HX.ext hXd t5; have hx9 := mkx QC.mono hxd t5) | (go_at_call 153; (with_reducible refine (qden (hidB X b 3) w9 _ x hX9 hx9).mono ?_); rintro ee w10 ⟨hE10, u10, rfl, hu10⟩; have t6 := t5.trans hE10; have hX10 := HX.ext hXd t6; have hy10 := mkx QC.mono hyd t6) | (go_at_call 153; (with_reducible refine (qden (hidB X b 3) w10 _ y hX10 hy10).mono ?_); rintro ee w11 ⟨hE11, u11, rfl, hu11⟩; have t7 := t6.trans hE11; have hX11 := HX.ext hXd t7; have hm10 := (mkx NC.mono hu10 hE11).nv (Nat.le_trans bxd (by decide)); have hm11 := hu11.nv (Nat.le_trans byd (by decide))) | (go_at_call 152; (with_reducible refine (nmul hX11 hm10 hm11).mono ?_); rintro ee w12 ⟨hE12, u12, rfl, hu12⟩; have t8 := t7.trans hE12; have hX12 := HX.ext hXd t8; have hz9 := mkx ZC.mono hu9 (hE10.trans (hE11.trans hE12))) | (go_at_call 151; (with_reducible refine (qlowest (hidB X b 3) w12 _ _ _ _ hX12 hz9 hu12 bsum (Nat.le_trans bdd (by decide)) bd0).mono ?_); rintro ee w13 ⟨hE13, u13, rfl, hu13⟩; obtain ⟨s13, a13, n13, c13, d13, k13, e13, rfl⟩ := hu13.shape; have t9 := t8.trans hE13; have bb2 := b2.ext0 (hEd.trans t9); have g0 := bb2.cell 0 rfl; have g1 := bb2.cell 1 rfl; have g2 := bb2.cell 2 rfl; have f0 := bb2.frozen 0; have f1 := bb2.frozen 1; have f2 := bb2.frozen 2))
        obtain ⟨r1, r2⟩ := bb2.set3 (.bool s13) (.slice a13 n13 c13) (.slice d13 k13 e13)
        have h7 := QC.mono _ _ _ _ le_unbox (QC.mono _ _ _ _ (le_store r2 (by omega) (by omega)) hu13)
        rw [hfin.out] at h7
        have hEf : Ext w _ := ExtX.box (hE1.trans (hEd.trans t9)) r2 (by omega)
        clear g0 g1 g2 f0 f1 f2 k00 k01 k02 k10 k11 k12 hS hB
        go_wp2_with fail
        exact bodyPost_ret (results_box rfl rfl stRat r1 rfl) rfl ⟨hEf, _, rfl, h7⟩
end Go.Proofs.YtjbhcniiioepgaaGreat

namespace Go.Proofs.YtjbhcniiioepgaaGreat
open Go.RowKit Go.Rep Go.Lim

set_option maxRecDepth 100000 in
set_option maxHeartbeats 1600000 in
theorem qmul (X : Nat → Bool) (w : World) (u v : Value) (x y : Rat) (hX : HX X w) (hu : QV (mk X w) u x) (hv : QV (mk X w) v y) : Calls Tryz.prog 98 #[u, v] w (ROut X w QC (x * y)) := by
  have hlx := hid hu.hq
  have hly := hid hv.hq
  obtain ⟨s1, a1, n1, c1, d1, k1, e1, rfl⟩ := hu.shape
  obtain ⟨s2, a2, n2, c2, d2, k2, e2, rfl⟩ := hv.shape
  obtain ⟨W, hW, hE, b0, b1, b2, hz⟩ := boxes3 w #[.bool s1, .slice a1 n1 c1, .slice d1 k1 e1] #[.bool s2, .slice a2 n2 c2, .slice d2 k2 e2] #[.bool false, .slice none 0 0, .slice none 0 0] 31 31 31
  have hXW : HX (hidB X w.heap.size 3) W := hX.boxes hz
  have hu1 := QV.mono _ _ _ _ (le_boxes (nb := 3) hE) hu
  have hv1 := QV.mono _ _ _ _ (le_boxes (nb := 3) hE) hv
  obtain ⟨b, hb⟩ : ∃ b, w.heap.size = b := ⟨_, rfl⟩
  have hbw : w.heap.size ≤ b := by omega
  rw [hb] at b0 b1 b2 hz hXW hu1 hv1
  have hEd : Ext W W.drew := (ExtX.refl W).drew
  have hXd : HX (hidB X b 3) W.drew := hXW
  have hud : QV (mk (hidB X b 3) W.drew) (.agg #[.bool s1, .slice a1 n1 c1, .slice d1 k1 e1]) x := hu1
  have hvd : QV (mk (hidB X b 3) W.drew) (.agg #[.bool s2, .slice a2 n2 c2, .slice d2 k2 e2]) y := hv1
  have k00 := b0.cell 0 rfl
  have k01 := b0.cell 1 rfl
  have k02 := b0.cell 2 rfl
  have k10 := b1.cell 0 rfl
  have k11 := b1.cell 1 rfl
  have k12 := b1.cell 2 rfl
  clear hu hv
  go_enter Tryz.func98, Tryz.ntmps98
  go_upto_region 1 with (fail)
  go_cut [] from 5 to 8 (fun wx => ∃ s3 a3 n3 c3 d3 k3 e3 s4 a4 n4 c4 d4 k4 e4, Bx wx b #[.bool s3, .slice a3 n3 c3, .slice d3 k3 e3] 31 ∧ Bx wx (b + 1) #[.bool s4, .slice a4 n4 c4, .slice d4 k4 e4] 31 ∧ Bx wx (b + 1 + 1) #[.bool false, .slice none 0 0, .slice none 0 0] 31 ∧ QC (mk (hidB X b 3) wx) (.agg #[.bool s3, .slice a3 n3 c3, .slice d3 k3 e3]) x ∧ QC (mk (hidB X b 3) wx) (.agg #[.bool s4, .slice a4 n4 c4, .slice d4 k4 e4]) y ∧ Ext w wx)
  case first =>
    go_region_with (first | (go_at_call 140; (with_reducible refine (qvalue (hidB X b 3) W.drew _ x hXd hud).mono ?_); rintro ee w5 ⟨hE5, u5, rfl, hq5⟩; obtain ⟨s5, a5, n5, c5, d5, k5, e5, rfl⟩ := hq5.shape; have bb0 := b0.ext0 (hEd.trans hE5); have bb1 := b1.ext0 (hEd.trans hE5); have e00 := bb0.cell 0 rfl; have e01 := bb0.cell 1 rfl; have e02 := bb0.cell 2 rfl; have e10 := bb1.cell 0 rfl; have e11 := bb1.cell 1 rfl; have e12 := bb1.cell 2 rfl) | (go_at_call 140; (with_reducible refine (qvalue (hidB X b 3) w5 _ y (HX.ext hXd hE5) (mkx QV.mono hvd hE5)).mono ?_); rintro ee w6 ⟨hE6, u6, rfl, hq6⟩; obtain ⟨s6, a6, n6, c6, d6, k6, e6, rfl⟩ := hq6.shape; have bb2 := bb0.ext0 hE6; have bb3 := bb1.ext0 hE6; have g00 := bb2.cell 0 rfl; have g01 := bb2.cell 1 rfl; have g02 := bb2.cell 2 rfl; have g10 := bb3.cell 0 rfl; have g11 := bb3.cell 1 rfl; have g12 := bb3.cell 2 rfl; have fr0 := bb2.frozen 0; have fr1 := bb2.frozen 1; have fr4 := bb2.frozen 2; have fr2 := bb3.frozen 0; have fr3 := bb3.frozen 1; have fr5 := bb3.frozen 2))
    all_goals
      obtain ⟨wf, hwf, q0, q1, q2, q3, q4⟩ := two_stores3 (X := X) (nb := 3) bb2 bb3 (hE.trans ((hEd.trans hE5).trans hE6)) hbw (by omega) (.bool s5) (.slice a5 n5 c5) (.slice d5 k5 e5) (.bool s6) (.slice a6 n6 c6) (.slice d6 k6 e6)
      rw [hwf]
      have hfx : QC (mk (hidB X b 3) wf) (.agg #[.bool s5, .slice a5 n5 c5, .slice d5 k5 e5]) x := QC.mono _ _ _ _ q4 (mkx QC.mono hq5 hE6)
      have hfy : QC (mk (hidB X b 3) wf) (.agg #[.bool s6, .slice a6 n6 c6, .slice d6 k6 e6]) y := QC.mono _ _ _ _ q4 hq6
      have q5 := q2 (b + 1 + 1) _ _ (by omega) (by omega) ((b2.ext0 (hEd.trans hE5)).ext0 hE6)
      clear e00 e01 e02 e10 e11 e12 g00 g01 g02 g10 g11 g12 fr0 fr1 fr2 fr3 fr4 fr5 k00 k01 k02 k10 k11 k12 hwf
      go_wp2_with fail
      go_meet
      exact ⟨_, _, _, _, _, _, _, _, _, _, _, _, _, _, q0, q1, q5, hfx, hfy, q3⟩
  case rest =>
    clear k00 k01 k02 k10 k11 k12 b0 b1 b2 hu1 hv1 hud hvd hXd hEd hW
    obtain ⟨s3, a3, n3, c3, d3, k3, e3, s4, a4, n4, c4, d4, k4, e4, b0, b1, b2, hx, hy, hE1⟩ := hcut
    have hzz : w.heap.size + 3 ≤ wc.heap.size := by have := b2.lt; omega
    obtain ⟨hxz, hxm, hxdn⟩ := hx.num
    obtain ⟨hyz, hym, hydn⟩ := hy.num
    have hXc : HX (hidB X b 3) wc := hX.boxes' hE1 (by have := hzz; omega) hzz
    have k00 := b0.cell 0 rfl
    have k01 := b0.cell 1 rfl
    have k02 := b0.cell 2 rfl
    have k10 := b1.cell 0 rfl
    have k11 := b1.cell 1 rfl
    have k12 := b1.cell 2 rfl
    have hEd : Ext wc wc.drew := (ExtX.refl wc).drew
    have hXd : HX (hidB X b 3) wc.drew := hXc
    have hxd : QC (mk (hidB X b 3) wc.drew) (.agg #[.bool s3, .slice a3 n3 c3, .slice d3 k3 e3]) x := hx
    have hyd : QC (mk (hidB X b 3) wc.drew) (.agg #[.bool s4, .slice a4 n4 c4, .slice d4 k4 e4]) y := hy
    have hxzd : ZC (mk (hidB X b 3) wc.drew) (.agg #[.bool s3, .slice a3 n3 c3]) x.num := hxz
    have hyzd : ZC (mk (hidB X b 3) wc.drew) (.agg #[.bool s4, .slice a4 n4 c4]) y.num := hyz
    have bxn : lg x.num.natAbs ≤ 549755813888 := Nat.le_trans (Nat.le_trans (hq_num x) hlx.out) (by omega)
    have byn : lg y.num.natAbs ≤ 549755813888 := Nat.le_trans (Nat.le_trans (hq_num y) hly.out) (by omega)
    have bxd : lg x.den ≤ 549755813888 := Nat.le_trans (Nat.le_trans (hq_den x) hlx.out) (by omega)
    have byd : lg y.den ≤ 549755813888 := Nat.le_trans (Nat.le_trans (hq_den y) hly.out) (by omega)
    have bp1 : lg (x.num * (y.den : Int)).natAbs ≤ 274877906944 := by rw [Int.natAbs_mul, Int.natAbs_natCast]; have := lg_mul x.num.natAbs y.den; have := hq_num x; have := hq_den y; have := hlx.out; have := hly.out; omega
    have bp2 : lg (y.num * (x.den : Int)).natAbs ≤ 274877906944 := by rw [Int.natAbs_mul, Int.natAbs_natCast]; have := lg_mul y.num.natAbs x.den; have := hq_num y; have := hq_den x; have := hlx.out; have := hly.out; omega
    have bdd : lg (x.den * y.den) ≤ 274877906944 := by have := lg_mul x.den y.den; have := hq_den x; have := hq_den y; have := hlx.out; have := hly.out; omega
    have bnn : lg (x.num * y.num).natAbs ≤ 274877906944 := by rw [Int.natAbs_mul]; have := lg_mul x.num.natAbs y.num.natAbs; have := hq_num x; have := hq_num y; have := hlx.out; have := hly.out; omega
    have bd0 : 0 < x.den * y.den := Nat.mul_pos x.den_pos y.den_pos
    have hB := hid (And.intro b0 b1)
    have hS : Hid (∀ W', Ext wc.drew W' → W'.cell? ⟨b, 0, none⟩ = some (.bool s3) ∧ W'.cell? ⟨b, 1, none⟩ = some (.slice a3 n3 c3) ∧ W'.cell? ⟨b, 2, none⟩ = some (.slice d3 k3 e3) ∧ W'.cell? ⟨b + 1, 0, none⟩ = some (.bool s4) ∧ W'.cell? ⟨b + 1, 1, none⟩ = some (.slice a4 n4 c4) ∧ W'.cell? ⟨b + 1, 2, none⟩ = some (.slice d4 k4 e4)) :=
      hid fun W' h => ⟨(b0.ext0 (hEd.trans h)).cell 0 rfl, (b0.ext0 (hEd.trans h)).cell 1 rfl, (b0.ext0 (hEd.trans h)).cell 2 rfl, (b1.ext0 (hEd.trans h)).cell 0 rfl, (b1.ext0 (hEd.trans h)).cell 1 rfl, (b1.ext0 (hEd.trans h)).cell 2 rfl⟩
    have hl3 := hxdn.len0
    have hl4 := hydn.len0
    rw [dn_zero] at hl3 hl4
    have hxv := hxzd.zv bxn
    have hyv := hyzd.zv byn
    have hfin : Hid (mkRat (x.num * y.num) (x.den * y.den) = x * y) := hid (Rat.mul_def' x y).symm
    by_cases hk : k3 = 0 ∧ k4 = 0
    · have hd3 := hid (hl3.1 hk.1)
      have hd4 := hid (hl4.1 hk.2)
      obtain ⟨rfl, rfl⟩ := hk
      have hsum : Hid (((x.num * y.num : Int) : Rat) = x * y) := hid (by
        rw [Rat.intCast_mul]
        conv => rhs; rw [← Rat.mkRat_self x, ← Rat.mkRat_self y]
        rw [hd3.out, hd4.out, ← Rat.mk_den_one, ← Rat.mk_den_one, Rat.mk_eq_mkRat, Rat.mk_eq_mkRat])
      clear hl3 hl4
      go_wp2_with fail
      refine (imul (hidB X b 3) wc _ _ _ _ hXc (hxz.zv bxn) (hyz.zv byn)).mono ?_
      rintro ee w5 ⟨hE5, u5, rfl, s6, a6, c6, l6, rfl, h61, h62, h63⟩
      have b2' := b2.ext0 hE5
      have hcq := CanQ.ofInt h62
      rw [hsum.out] at hcq
      clear k00 k01 k02 k10 k11 k12
      go_wp2_with ((with_reducible show wpList _ _ _ (⟨_, .store _ _ _, _, _, _, _⟩ :: _) _ _); refine st_storeBox stRat rfl rfl b2' rfl rfl (one3 _ _ _ _ _ _ _) ?_; intro w7 r1 r2)
      have h7 := (h63.mono (NatIn.mono _) (le_store r2 (by omega) (by omega))).mono (NatIn.mono _) le_unbox
      exact bodyPost_ret (results_box rfl rfl stRat r1 rfl) rfl ⟨ExtX.box (hE1.trans hE5) r2 (by omega), _, rfl, s6, a6, c6, l6, none, 0, [], rfl, h61, Nat.le_refl _, hcq, h7, Sl.nil _ _ _ _⟩
    · rcases (by omega : ¬ k3 = 0 ∨ (k3 = 0 ∧ ¬ k4 = 0)) with h3 | ⟨h3, h4⟩
      · have hI : ((k3 : Int) == 0) = false := beqF (by omega)
        clear hk hl3 hl4 h3
        go_wp2_with fail
        go_region_held3 (fun w' => w'.cell? ⟨b, 0, none⟩ = some (.bool s3) ∧ w'.cell? ⟨b, 1, none⟩ = some (.slice a3 n3 c3) ∧ w'.cell? ⟨b, 2, none⟩ = some (.slice d3 k3 e3) ∧ w'.cell? ⟨b + 1, 0, none⟩ = some (.bool s4) ∧ w'.cell? ⟨b + 1, 1, none⟩ = some (.slice a4 n4 c4) ∧ w'.cell? ⟨b + 1, 2, none⟩ = some (.slice d4 k4 e4))
          (first | exact hS.out _ t1 | exact hS.out _ t2 | exact hS.out _ t3 | exact hS.out _ t4 | exact hS.out _ t5 | exact ⟨((hB.out.1.ext0 (hEd.trans t5)).ext (bb2.set3 _ _ _).2 (ob_other (by omega))).cell 0 rfl, ((hB.out.1.ext0 (hEd.trans t5)).ext (bb2.set3 _ _ _).2 (ob_other (by omega))).cell 1 rfl, ((hB.out.1.ext0 (hEd.trans t5)).ext (bb2.set3 _ _ _).2 (ob_other (by omega))).cell 2 rfl, ((hB.out.2.ext0 (hEd.trans t5)).ext (bb2.set3 _ _ _).2 (ob_other (by omega))).cell 0 rfl, ((hB.out.2.ext0 (hEd.trans t5)).ext (bb2.set3 _ _ _).2 (ob_other (by omega))).cell 1 rfl, ((hB.out.2.ext0 (hEd.trans t5)).ext (bb2.set3 _ _ _).2 (ob_other (by omega))).cell 2 rfl⟩ | go_keep)
          (first | (go_at_call 150; (with_reducible refine (imul (hidB X b 3) wc.drew _ _ _ _ hXd hxv hyv).mono ?_); rintro ee w5 ⟨t1, u5, rfl, hu5⟩; have hX5 := HX.ext hXd t1; have hx5 := mkx QC.mono hxd t1) | (go_at_call 153; (with_reducible refine (qden (hidB X b 3) w5 _ x hX5 hx5).mono ?_); rintro ee w6 ⟨hE6, u6, rfl, hu6⟩; have t2 := t1.trans hE6; have hX6 := HX.ext hXd t2; have hy6 := mkx QC.mono hyd t2) | (go_at_call 153; (with_reducible refine (qden (hidB X b 3) w6 _ y hX6 hy6).mono ?_); rintro ee w7 ⟨hE7, u7, rfl, hu7⟩; have t3 := t2.trans hE7; have hX7 := HX.ext hXd t3; have hm6 := (mkx NC.mono hu6 hE7).nv (Nat.le_trans bxd (by decide)); have hm7 := hu7.nv (Nat.le_trans byd (by decide))) | (go_at_call 152; (with_reducible refine (nmul hX7 hm6 hm7).mono ?_); rintro ee w8 ⟨hE8, u8, rfl, hu8⟩; have t4 := t3.trans hE8; have hX8 := HX.ext hXd t4; have hz5 := mkx ZC.mono hu5 (hE6.trans (hE7.trans hE8))) | (go_at_call 151; (with_reducible refine (qlowest (hidB X b 3) w8 _ _ _ _ hX8 hz5 hu8 (Nat.le_trans bnn (by decide)) (Nat.le_trans bdd (by decide)) bd0).mono ?_); rintro ee w13 ⟨hE13, u13, rfl, hu13⟩; obtain ⟨s13, a13, n13, c13, d13, k13, e13, rfl⟩ := hu13.shape; have t5 := t4.trans hE13; have bb2 := b2.ext0 (hEd.trans t5); have g0 := bb2.cell 0 rfl; have g1 := bb2.cell 1 rfl; have g2 := bb2.cell 2 rfl; have f0 := bb2.frozen 0; have f1 := bb2.frozen 1; have f2 := bb2.frozen 2))
        obtain ⟨r1, r2⟩ := bb2.set3 (.bool s13) (.slice a13 n13 c13) (.slice d13 k13 e13)
        have h7 := QC.mono _ _ _ _ le_unbox (QC.mono _ _ _ _ (le_store r2 (by omega) (by omega)) hu13)
        rw [hfin.out] at h7
        have hEf : Ext w _ := ExtX.box (hE1.trans (hEd.trans t5)) r2 (by omega)
        clear g0 g1 g2 f0 f1 f2 k00 k01 k02 k10 k11 k12 hS hB
        go_wp2_with fail
        exact bodyPost_ret (results_box rfl rfl stRat r1 rfl) rfl ⟨hEf, _, rfl, h7⟩
      · have hI : ((k4 : Int) == 0) = false := beqF (by omega)
        subst h3
        clear hk hl3 hl4 h4
        go_wp2_with fail
        go_region_held3 (fun w' => w'.cell? ⟨b, 0, none⟩ = some (.bool s3) ∧ w'.cell? ⟨b, 1, none⟩ = some (.slice a3 n3 c3) ∧ w'.cell? ⟨b, 2, none⟩ = some (.slice d3 0 e3) ∧ w'.cell? ⟨b + 1, 0, none⟩ = some (.bool s4) ∧ w'.cell? ⟨b + 1, 1, none⟩ = some (.slice a4 n4 c4) ∧ w'.cell? ⟨b + 1, 2, none⟩ = some (.slice d4 k4 e4))
          (first | exact hS.out _ t1 | exact hS.out _ t2 | exact hS.out _ t3 | exact hS.out _ t4 | exact hS.out _ t5 | exact ⟨((hB.out.1.ext0 (hEd.trans t5)).ext (bb2.set3 _ _ _).2 (ob_other (by omega))).cell 0 rfl, ((hB.out.1.ext0 (hEd.trans t5)).ext (bb2.set3 _ _ _).2 (ob_other (by omega))).cell 1 rfl, ((hB.out.1.ext0 (hEd.trans t5)).ext (bb2.set3 _ _ _).2 (ob_other (by omega))).cell 2 rfl, ((hB.out.2.ext0 (hEd.trans t5)).ext (bb2.set3 _ _ _).2 (ob_other (by omega))).cell 0 rfl, ((hB.out.2.ext0 (hEd.trans t5)).ext (bb2.set3 _ _ _).2 (ob_other (by omega))).cell 1 rfl, ((hB.out.2.ext0 (hEd.trans t5)).ext (bb2.set3 _ _ _).2 (ob_other (by omega))).cell 2 rfl⟩ | go_keep)
          (first | (go_at_call 150; (with_reducible refine (imul (hidB X b 3) wc.drew _ _ _ _ hXd hxv hyv).mono ?_); rintro ee w5 ⟨t1, u5, rfl, hu5⟩; have hX5 := HX.ext hXd t1; have hx5 := mkx QC.mono hxd t1) | (go_at_call 153; (with_reducible refine (qden (hidB X b 3) w5 _ x hX5 hx5).mono ?_); rintro ee w6 ⟨hE6, u6, rfl, hu6⟩; have t2 := t1.trans hE6; have hX6 := HX.ext hXd t2; have hy6 := mkx QC.mono hyd t2) | (go_at_call 153; (with_reducible refine (qden (hidB X b 3) w6 _ y hX6 hy6).mono ?_); rintro ee w7 ⟨hE7, u7, rfl, hu7⟩; have t3 := t2.trans hE7; have hX7 := HX.ext hXd t3; have hm6 := (mkx NC.mono hu6 hE7).nv (Nat.le_trans bxd (by decide)); have hm7 := hu7.nv (Nat.le_trans byd (by decide))) | (go_at_call 152; (with_reducible refine (nmul hX7 hm6 hm7).mono ?_); rintro ee w8 ⟨hE8, u8, rfl, hu8⟩; have t4 := t3.trans hE8; have hX8 := HX.ext hXd t4; have hz5 := mkx ZC.mono hu5 (hE6.trans (hE7.trans hE8))) | (go_at_call 151; (with_reducible refine (qlowest (hidB X b 3) w8 _ _ _ _ hX8 hz5 hu8 (Nat.le_trans bnn (by decide)) (Nat.le_trans bdd (by decide)) bd0).mono ?_); rintro ee w13 ⟨hE13, u13, rfl, hu13⟩; obtain ⟨s13, a13, n13, c13, d13, k13, e13, rfl⟩ := hu13.shape; have t5 := t4.trans hE13; have bb2 := b2.ext0 (hEd.trans t5); have g0 := bb2.cell 0 rfl; have g1 := bb2.cell 1 rfl; have g2 := bb2.cell 2 rfl; have f0 := bb2.frozen 0; have f1 := bb2.frozen 1; have f2 := bb2.frozen 2))
        obtain ⟨r1, r2⟩ := bb2.set3 (.bool s13) (.slice a13 n13 c13) (.slice d13 k13 e13)
        have h7 := QC.mono _ _ _ _ le_unbox (QC.mono _ _ _ _ (le_store r2 (by omega) (by omega)) hu13)
        rw [hfin.out] at h7
        have hEf : Ext w _ := ExtX.box (hE1.trans (hEd.trans t5)) r2 (by omega)
        clear g0 g1 g2 f0 f1 f2 k00 k01 k02 k10 k11 k12 hS hB
        go_wp2_with fail
        exact bodyPost_ret (results_box rfl rfl stRat r1 rfl) rfl ⟨hEf, _, rfl, h7⟩
end Go.Proofs.YtjbhcniiioepgaaGreat
