/- Parts of a proof: each theorem states what it proves, and its conditions. -/
import Derived.Test.YtnnpfhoigmegcaaGreatFlE
namespace Go.Lim
theorem cmpN_eq0 (a b : Nat) : (cmpN a b == 0) = decide (a = b) := by
  rw [Bool.eq_iff_iff]; simp only [beq_iff_eq, decide_eq_true_eq]; exact cmpN_eq a b
end Go.Lim
namespace Go.Proofs.YtnnpfhoigmegcaaGreat
open Go.RowKit Go.Rep Go.Lim
set_option maxRecDepth 100000 in
theorem qvalid (X : Nat -> Bool) (w : World) (s : Bool) (ao bo : Option Addr) (c e : Nat) (m d : List Nat) (hX : HX X w) (hm : Sl (NatIn .u32) 1 (mk X w) ao m) (hd : Sl (NatIn .u32) 1 (mk X w) bo d) (hml : m.length <= 68719476736) (hdl : d.length <= 68719476736) (hmd : Dig m) (hdd : Dig d) (hmc : m.length <= c) (hdc : d.length <= e) :
    Calls Tryz.prog 283 #[.agg #[.bool s, .slice ao m.length c, .slice bo d.length e]] w (BOut w (validQ s m d)) := by
  obtain ⟨W, hW, hE, b0, hz⟩ := boxes1 w #[.bool s, .slice ao m.length c, .slice bo d.length e] 41
  have hXW : HX X W := hX.ext hE
  have hmW := hm.mono (NatIn.mono _) (mk_ext hE)
  have hdW := hd.mono (NatIn.mono _) (mk_ext hE)
  obtain ⟨b, hb⟩ : ∃ b, w.heap.size = b := ⟨_, rfl⟩
  rw [hb] at b0 hz
  have k00 := b0.cell 0 rfl
  have k01 := b0.cell 1 rfl
  have k02 := b0.cell 2 rfl
  have hdef : Hid (validQ s m d = (validZ s m && validL d && (decide (d.length = 0) || (decide (0 < m.length) && !(nv d == 1) && (Nat.gcd (nv m) (nv d) == 1))))) := hid rfl
  clear hX hm hd hz
  cases hv : validZ s m
  · have hf : Hid (validQ s m d = false) := hid (by rw [hdef.out, hv]; rfl)
    have hv' := hid hv
    clear hv hdef
    go_enter Tryz.func283, Tryz.ntmps283
    go_wp2_with fail
    refine (ivalid X W s ao c m hmW (by omega)).mono ?_
    rintro e w1 ⟨hE1, rfl⟩
    rw [hv'.out]
    clear k00 k01 k02
    go_wp2_with fail
    go_ret
    exact ⟨hE.trans hE1, ret_bool hf.out.symm⟩
  · cases hl : validL d
    · have hf : Hid (validQ s m d = false) := hid (by rw [hdef.out, hv, hl]; rfl)
      have hv' := hid hv
      have hl' := hid hl
      clear hv hdef hl
      go_enter Tryz.func283, Tryz.ntmps283
      go_wp2_with fail
      refine (ivalid X W s ao c m hmW (by omega)).mono ?_
      rintro e w1 ⟨hE1, rfl⟩
      rw [hv'.out]
      have j02 := (b0.ext0 hE1).cell 2 rfl
      have hd1 := hdW.mono (NatIn.mono _) (mk_ext hE1)
      clear k00 k01 k02
      go_wp2_with fail
      refine (valid_any X _ _ _ _ hd1 (by omega)).mono ?_
      rintro e w2 ⟨rfl, rfl⟩
      rw [hl'.out]
      clear j02
      go_wp2_with fail
      go_ret
      exact ⟨hE.trans hE1, ret_bool hf.out.symm⟩
    · have hf : Hid (validQ s m d = (decide (d.length = 0) || (decide (0 < m.length) && !(nv d == 1) && (Nat.gcd (nv m) (nv d) == 1)))) := hid (by rw [hdef.out, hv, hl]; rfl)
      have hv' := hid hv
      have hl' := hid hl
      have hmv : validL m = true := by unfold validZ at hv; simp at hv; exact hv.1
      have hcm := hid (show Canon m (nv m) from ⟨hmd, hmv, rfl⟩)
      have hcd := hid (show Canon d (nv d) from ⟨hdd, hl, rfl⟩)
      clear hv hdef hl hmv
      by_cases h0 : d.length = 0
      · have hf2 : Hid (validQ s m d = true) := hid (by rw [hf.out, decide_eq_true h0]; rfl)
        obtain rfl : d = [] := List.eq_nil_of_length_eq_zero h0
        clear h0 hf
        simp only [List.length_nil] at hW b0 k02 |-
        go_enter Tryz.func283, Tryz.ntmps283
        go_wp2_with fail
        refine (ivalid X W s ao c m hmW (by omega)).mono ?_
        rintro e w1 ⟨hE1, rfl⟩
        rw [hv'.out]
        have j02 := (b0.ext0 hE1).cell 2 rfl
        have hd1 := hdW.mono (NatIn.mono _) (mk_ext hE1)
        clear k00 k01 k02
        go_wp2_with fail
        refine (valid_any X _ [] _ _ hd1 (by simp)).mono ?_
        rintro e w2 ⟨rfl, rfl⟩
        rw [hl'.out]
        go_wp2_with fail
        go_ret
        exact ⟨hE.trans hE1, ret_bool hf2.out.symm⟩
      · have hdI : ((d.length : Int) == 0) = false := beqF (by omega)
        have hfd : Hid (validQ s m d = (decide (0 < m.length) && !(nv d == 1) && (Nat.gcd (nv m) (nv d) == 1))) := hid (by rw [hf.out, decide_eq_false h0]; rfl)
        clear hf
        go_enter Tryz.func283, Tryz.ntmps283
        go_wp2_with fail
        refine (ivalid X W s ao c m hmW (by omega)).mono ?_
        rintro e' w1 ⟨hE1, rfl⟩
        rw [hv'.out]
        have b1 := b0.ext0 hE1
        have j02 := b1.cell 2 rfl
        have j01 := b1.cell 1 rfl
        have hd1 := hdW.mono (NatIn.mono _) (mk_ext hE1)
        have hm1 := hmW.mono (NatIn.mono _) (mk_ext hE1)
        have hX1 := hXW.ext hE1
        have hmn : NV (mk X w1) (.slice ao m.length c) (nv m) := ⟨ao, c, m, rfl, hmc, hmd, by omega, hm1, by unfold val; rw [Canon.vl hcm.out]⟩
        have hdn : NV (mk X w1) (.slice bo d.length e) (nv d) := ⟨bo, e, d, rfl, hdc, hdd, by omega, hd1, by unfold val; rw [Canon.vl hcd.out]⟩
        clear k00 k01 k02
        have hB := hid b1
        have hEd : Ext w1 w1.drew := (ExtX.refl w1).drew
        have hXd : HX X w1.drew := hX1
        have hdnd : NV (mk X w1.drew) (.slice bo d.length e) (nv d) := hdn
        by_cases hm0 : m.length = 0
        · have hf2 : Hid (validQ s m d = false) := hid (by rw [hfd.out, decide_eq_false (by omega)]; rfl)
          obtain rfl : m = [] := List.eq_nil_of_length_eq_zero hm0
          clear hfd hm0 h0
          simp only [List.length_nil] at b1 j01 hB |-
          go_wp2_with fail
          refine (valid_any X _ _ _ _ hd1 (by omega)).mono ?_
          rintro e' w2 ⟨rfl, rfl⟩
          rw [hl'.out]
          go_wp2_with fail
          try go_quiet (fail)
          go_wp2_with fail
          go_ret
          exact ⟨hE.trans (hE1.trans ((ExtX.refl w1).drewN _)), ret_bool hf2.out.symm⟩
        · have hmI : ((m.length : Int) == 0) = false := beqF (by omega)
          have hfm : Hid (validQ s m d = (!(nv d == 1) && (Nat.gcd (nv m) (nv d) == 1))) := hid (by rw [hfd.out, decide_eq_true (by omega)]; rfl)
          clear hfd hm0 h0
          go_wp2_with fail
          refine (valid_any X _ _ _ _ hd1 (by omega)).mono ?_
          rintro e' w2 ⟨rfl, rfl⟩
          rw [hl'.out]
          go_wp2_with fail
          go_region_held3 (fun w' => w'.cell? ⟨b, 1, none⟩ = some (.slice ao m.length c) /\ w'.cell? ⟨b, 2, none⟩ = some (.slice bo d.length e))
            (first | exact ⟨(hB.out.ext0 (hEd.trans hE5)).cell 1 rfl, (hB.out.ext0 (hEd.trans hE5)).cell 2 rfl⟩ | exact ⟨(hB.out.ext0 (hEd.trans (hE5.trans hE6))).cell 1 rfl, (hB.out.ext0 (hEd.trans (hE5.trans hE6))).cell 2 rfl⟩ | go_keep)
            (first | (go_at_call 294; (with_reducible refine (qone X w1.drew hXd).mono ?_); rintro e5 w5 ⟨hE5, u5, rfl, hu5⟩; have hu5n := hu5.nv (by rw [lg_one]; decide)) | (go_at_call 168; (with_reducible refine (ncmp (mkx NV.mono hdnd hE5) hu5n).mono ?_); rintro e6 w6 ⟨hE6, rfl⟩))
          have hE6' := hEd.trans (hE5.trans hE6)
          have b6 := hB.out.ext0 hE6'
          have hm6 := mkx NV.mono hmn hE6'
          have hd6 := mkx NV.mono hdn hE6'
          have hX6 := hX1.ext hE6'
          clear j01 j02
          have j01 := b6.cell 1 rfl
          have j02 := b6.cell 2 rfl
          rw [cmpN_eq0]
          by_cases h1 : nv d = 1
          · have hf2 : Hid (validQ s m d = false) := hid (by rw [hfm.out, h1]; rfl)
            have hI1 : decide (nv d = 1) = true := decide_eq_true h1
            rw [hI1]
            clear h1 hI1 hfm
            go_wp2_with fail
            go_ret
            exact ⟨hE.trans (hE1.trans hE6'), ret_bool hf2.out.symm⟩
          · have hf2 : Hid (validQ s m d = decide (Nat.gcd (nv m) (nv d) = 1)) := hid (by
              rw [hfm.out, Bool.eq_iff_iff]; simp [h1])
            have hI1 : decide (nv d = 1) = false := decide_eq_false h1
            rw [hI1]
            clear h1 hI1 hfm
            go_wp2_with fail
            refine (ngcd hX6 hm6 hd6).mono ?_
            rintro e7 w7 ⟨hE7, u7, rfl, hu7⟩
            have hX7 := hX6.ext hE7
            have hg7 : lg (Nat.gcd (nv m) (nv d)) <= 1099511627776 := by
              have h1 : Nat.gcd (nv m) (nv d) <= nv d \/ nv d = 0 := by
                by_cases h : nv d = 0
                · exact .inr h
                · exact .inl (Nat.gcd_le_right _ (by omega))
              rcases h1 with h1 | h1
              · exact Nat.le_trans (lg_mono h1) hdn.lg
              · rw [h1, Nat.gcd_zero_right]; exact hmn.lg
            have hg7' := hid hg7
            clear j01 j02 hg7
            go_wp2_with fail
            refine (qone X w7 hX7).mono ?_
            rintro e8 w8 ⟨hE8, u8, rfl, hu8⟩
            have h7n := mkx NV.mono (hu7.nv hg7'.out) hE8
            go_wp2_with fail
            refine (ncmp h7n (hu8.nv (by rw [lg_one]; decide))).mono ?_
            rintro e9 w9 ⟨hE9, rfl⟩
            have hcq : Hid ((cmpN (Nat.gcd (nv m) (nv d)) 1 == 0) = validQ s m d) := hid (by rw [cmpN_eq0, hf2.out])
            generalize cmpN (Nat.gcd (nv m) (nv d)) 1 = cc at *
            go_wp2_with fail
            go_ret
            exact ⟨hE.trans (hE1.trans (hE6'.trans (hE7.trans (hE8.trans hE9)))), ret_bool hcq.out⟩
set_option maxRecDepth 100000 in
theorem qvalue (X : Nat -> Bool) (w : World) (u : Value) (q : Rat) (hX : HX X w) (hu : QV (mk X w) u q) : Calls Tryz.prog 207 #[u] w (ROut X w QC q) := by
  obtain ⟨s, ao, c, m, bo, e, d, rfl, h1, h2, h3, h4, h5, h6, h7, h8, rfl⟩ := hu
  obtain ⟨W, hW, hE, b0, b1, hz⟩ := boxes2 w #[.bool s, .slice ao m.length c, .slice bo d.length e] #[.bool false, .slice none 0 0, .slice none 0 0] 41 41
  have hXW : HX (hidB X w.heap.size 2) W := hX.boxes hz
  have hs1 : Sl (NatIn .u32) 1 (mk (hidB X w.heap.size 2) W) ao m := h7.mono (NatIn.mono _) (le_boxes hE)
  have hs2 : Sl (NatIn .u32) 1 (mk (hidB X w.heap.size 2) W) bo d := h8.mono (NatIn.mono _) (le_boxes hE)
  obtain ⟨b, hb⟩ : ∃ b, w.heap.size = b := ⟨_, rfl⟩
  have hbw : w.heap.size <= b := by omega
  rw [hb] at b0 b1 hz hs1 hs2 hXW
  have c0 := b0.cell 0 rfl
  have c1 := b0.cell 1 rfl
  have c2 := b0.cell 2 rfl
  cases hv : validQ s m d
  · have hz0 := hid (qval_invalid hv)
    have hv' := hid hv
    clear hv
    go_enter Tryz.func207, Tryz.ntmps207
    go_wp2_with fail
    refine (qvalid (hidB X b 2) W s ao bo c e m d hXW hs1 hs2 h5 h6 h3 h4 h1 h2).mono ?_
    rintro e1 w1 ⟨hE1, rfl⟩
    rw [hv'.out]
    have b1' := b1.ext0 hE1
    clear c0 c1 c2
    go_wp2_with ((with_reducible show wpList _ _ _ (⟨_, .store _ _ _, _, _, _, _⟩ :: _) _ _); refine st_storeBox stRat rfl rfl b1' rfl rfl (one3 _ _ _ _ _ _ _) ?_; intro w2 b2 hE2)
    exact bodyPost_ret (results_box rfl rfl stRat b2 rfl) rfl ⟨ExtX.box (hE.trans hE1) hE2 (by omega), _, rfl, by rw [hz0.out]; exact QC.zero _⟩
  · have hv' := hid hv
    clear hv
    go_enter Tryz.func207, Tryz.ntmps207
    go_wp2_with fail
    refine (qvalid (hidB X b 2) W s ao bo c e m d hXW hs1 hs2 h5 h6 h3 h4 h1 h2).mono ?_
    rintro e1 w1 ⟨hE1, rfl⟩
    rw [hv'.out]
    have b0' := b0.ext0 hE1
    have b1' := b1.ext0 hE1
    clear c0 c1 c2
    have c0 := b0'.cell 0 rfl
    have c1 := b0'.cell 1 rfl
    have c2 := b0'.cell 2 rfl
    go_wp2_with ((with_reducible show wpList _ _ _ (⟨_, .store _ _ _, _, _, _, _⟩ :: _) _ _); refine st_storeBox stRat rfl rfl b1' rfl rfl (one3 _ _ _ _ _ _ _) ?_; intro w2 b2 hE2)
    have hs3 := ((hs1.mono (NatIn.mono _) (mk_ext hE1)).mono (NatIn.mono _) (le_store hE2 (by omega) (by omega))).mono (NatIn.mono _) le_unbox
    have hs4 := ((hs2.mono (NatIn.mono _) (mk_ext hE1)).mono (NatIn.mono _) (le_store hE2 (by omega) (by omega))).mono (NatIn.mono _) le_unbox
    exact bodyPost_ret (results_box rfl rfl stRat b2 rfl) rfl ⟨ExtX.box (hE.trans hE1) hE2 (by omega), _, rfl, s, ao, c, m, bo, e, d, rfl, h1, h2, CanQ.of_valid h3 h4 hv'.out, hs3, hs4⟩
end Go.Proofs.YtnnpfhoigmegcaaGreat
namespace Go.Proofs.YtnnpfhoigmegcaaGreat
open Go.RowKit Go.Rep Go.Lim
theorem _root_.Go.Rep.NC.asZ {M : Mem} {u : Value} {n : Nat} (hu : NC M u n) (hn : lg n <= 549755813888) : ∃ ao k c, u = .slice ao k c /\ ZV M (.agg #[.bool false, .slice ao k c]) (n : Int) := by
  obtain ⟨ao, c, l, rfl, h1, h2, h3⟩ := hu
  refine ⟨ao, _, c, rfl, false, ao, c, l, rfl, h1, h2.1, by rw [h2.len]; exact hn, h3, ?_⟩
  unfold zval validZ
  rw [h2.2.1, h2.2.2]; simp
theorem two_stores3 {X : Nat -> Bool} {w w6 : World} {b nb : Nat} {x0 x1 x2 y0 y1 y2 : Value} {T U : TypeId} (h0 : Bx w6 b #[x0, x1, x2] T) (h1 : Bx w6 (b + 1) #[y0, y1, y2] U) (hE : Ext w w6) (hb : w.heap.size <= b) (hn : 2 <= nb) (v0 v1 v2 u0 u1 u2 : Value) :
    ∃ wf, ((((((w6.setCell ⟨b, 0, none⟩ v0).setCell ⟨b, 1, none⟩ v1).setCell ⟨b, 2, none⟩ v2).setCell ⟨b + 1, 0, none⟩ u0).setCell ⟨b + 1, 1, none⟩ u1).setCell ⟨b + 1, 2, none⟩ u2) = wf /\ Bx wf b #[v0, v1, v2] T /\ Bx wf (b + 1) #[u0, u1, u2] U /\ (∀ k cs V, k ≠ b -> k ≠ b + 1 -> Bx w6 k cs V -> Bx wf k cs V) /\ Ext w wf /\ Le (mk (hidB X b nb) w6) (mk (hidB X b nb) wf) := by
  obtain ⟨r1, r2⟩ := h0.set3 v0 v1 v2
  have h1' := h1.ext r2 (ob_other (by omega))
  obtain ⟨r3, r4⟩ := h1'.set3 u0 u1 u2
  refine ⟨_, rfl, r1.ext r4 (ob_other (by omega)), r3, fun k cs V k1 k2 h => (h.ext r2 (ob_other k1)).ext r4 (ob_other k2), ExtX.box (ExtX.box hE r2 hb) r4 (by omega), (le_store r2 (Nat.le_refl _) (by omega)).trans (le_store r4 (by omega) (by omega))⟩
theorem qtimes (X : Nat -> Bool) (w : World) (u v : Value) (x : Int) (n : Nat) (hX : HX X w) (hu : ZC (mk X w) u x) (hv : NC (mk X w) v n) (hx : lg x.natAbs <= 549755813888) (hn : lg n <= 549755813888) : Calls Tryz.prog 260 #[u, v] w (ROut X w ZC (x * n)) := by
  obtain ⟨bo, k, e, rfl, hv2⟩ := hv.asZ hn
  have huz := hu.zv hx
  obtain ⟨s, ao, c, l, rfl, h1, h2, h3⟩ := hu
  obtain ⟨W, hW, hE, b0, b1, hz⟩ := boxes2 w #[.bool s, .slice ao l.length c] #[.bool false, .slice none 0 0] 39 39
  have hXW : HX (hidB X w.heap.size 2) W := hX.boxes hz
  have hu1 := ZV.mono _ _ _ _ (le_boxes (nb := 2) hE) huz
  have hv1 := ZV.mono _ _ _ _ (le_boxes (nb := 2) hE) hv2
  obtain ⟨b, hb⟩ : ∃ b, w.heap.size = b := ⟨_, rfl⟩
  have hbw : w.heap.size <= b := by omega
  rw [hb] at b0 b1 hz hXW hu1 hv1
  have c0 := b0.cell 0 rfl
  have c1 := b0.cell 1 rfl
  clear hx hn
  go_enter Tryz.func260, Tryz.ntmps260
  go_wp2_with fail
  refine (imul (hidB X b 2) W _ _ _ _ hXW hu1 hv1).mono ?_
  rintro e1 w1 ⟨hE1, u1, rfl, s6, a6, c6, l6, rfl, h61, h62, h63⟩
  have b1' := b1.ext0 hE1
  clear c0 c1
  go_wp2_with ((with_reducible show wpList _ _ _ (⟨_, .store _ _ _, _, _, _, _⟩ :: _) _ _); refine st_storeBox stInt rfl rfl b1' rfl rfl (one2 _ _ _ _) ?_; intro w7 r1 r2)
  have h7 := (h63.mono (NatIn.mono _) (le_store r2 (by omega) (by omega))).mono (NatIn.mono _) le_unbox
  exact bodyPost_ret (results_box rfl rfl stInt r1 rfl) rfl ⟨ExtX.box (hE.trans hE1) r2 (by omega), _, rfl, s6, a6, c6, l6, rfl, h61, h62, h7⟩
set_option maxRecDepth 100000 in
theorem qlowest (X : Nat -> Bool) (w : World) (u v : Value) (z : Int) (k : Nat) (hX : HX X w) (hu : ZC (mk X w) u z) (hv : NC (mk X w) v k) (hz : lg z.natAbs <= 549755813888) (hk : lg k <= 549755813888) (hk0 : 0 < k) : Calls Tryz.prog 233 #[u, v] w (ROut X w QC (mkRat z k)) := by
  obtain ⟨s, ao, c, l, rfl, h1, h2, h3⟩ := hu
  have hvn := hv.nv (by omega : lg k <= 1099511627776)
  obtain ⟨bo, e, m, rfl, g1, g2, g3⟩ := hv
  obtain ⟨W, hW, hE, b0, b1, hzz⟩ := boxes2 w #[.bool s, .slice ao l.length c] #[.bool false, .slice none 0 0, .slice none 0 0] 39 41
  have hXW : HX (hidB X w.heap.size 2) W := hX.boxes hzz
  have hu1 : NV (mk (hidB X w.heap.size 2) W) (.slice ao l.length c) z.natAbs := NC.nv ⟨ao, c, l, rfl, h1, h2.2, h3.mono (NatIn.mono _) (le_boxes hE)⟩ (by omega)
  have hv1 := NV.mono _ _ _ _ (le_boxes (nb := 2) hE) hvn
  obtain ⟨b, hb⟩ : ∃ b, w.heap.size = b := ⟨_, rfl⟩
  have hbw : w.heap.size <= b := by omega
  rw [hb] at b0 b1 hzz hXW hu1 hv1
  have c0 := b0.cell 0 rfl
  have c1 := b0.cell 1 rfl
  obtain ⟨g, hg⟩ : ∃ g, Nat.gcd z.natAbs k = g := ⟨_, rfl⟩
  have hg0 : Hid (0 < g) := hid (by rw [<- hg]; exact Nat.gcd_pos_of_pos_right _ hk0)
  have hgl : Hid (lg g <= 1099511627776) := hid (by rw [<- hg]; exact Nat.le_trans (lg_mono (Nat.gcd_le_right _ hk0)) (by omega))
  have hlow := hid (fun (n d : List Nat) (hn : Canon n (z.natAbs / g)) (hd : Canon d (k / g)) => by
    have := CanQ.lowest (s := s) (z := z) (k := k) (n := n) (d := d) (by omega) h2.1 (by rw [hg]; exact hn) (by rw [hg]; exact hd)
    rw [hg] at this; exact this)
  have hdl : Hid (lg (k / g) <= 1099511627776) := hid (Nat.le_trans (lg_mono (Nat.div_le_self _ _)) (by omega))
  have hg' := hid hg
  clear hz hk hk0 h2 g2 hvn hg
  go_enter Tryz.func233, Tryz.ntmps233
  go_wp2_with fail
  refine (ngcd hXW hu1 hv1).mono ?_
  rintro e1 w1 ⟨hE1, ug, rfl, hug⟩
  rw [hg'.out] at hug
  have hX1 := hXW.ext hE1
  have b01 := b0.ext0 hE1
  have j0 := b01.cell 0 rfl
  have j1 := b01.cell 1 rfl
  clear c0 c1
  go_wp2_with fail
  refine (ndiv hX1 (mkx NV.mono hu1 hE1) (hug.nv hgl.out) hg0.out).mono ?_
  rintro e2 w2 ⟨hE2, qu, ru, rfl, hqu, hru⟩
  have hX2 := hX1.ext hE2
  have b02 := b01.ext0 hE2
  clear j0 j1
  go_wp2_with fail
  refine (ndiv hX2 (mkx NV.mono hv1 (hE1.trans hE2)) (mkx NV.mono (hug.nv hgl.out) hE2) hg0.out).mono ?_
  rintro e3 w3 ⟨hE3, du, ru2, rfl, hdu, hru2⟩
  have hX3 := hX2.ext hE3
  go_wp2_with fail
  refine (qone (hidB X b 2) w3 hX3).mono ?_
  rintro e4 w4 ⟨hE4, ou, rfl, hou⟩
  go_wp2_with fail
  refine (ncmp (mkx NV.mono (hdu.nv hdl.out) hE4) (hou.nv (by rw [lg_one]; decide))).mono ?_
  rintro e5 w5 ⟨hE5, rfl⟩
  have hcq : Hid ((cmpN (k / g) 1 == 0) = decide (k / g = 1)) := hid (cmpN_eq0 _ _)
  have hqu5 := mkx NC.mono hqu (hE3.trans (hE4.trans hE5))
  have hdu5 := mkx NC.mono hdu (hE4.trans hE5)
  have hEE := hE2.trans (hE3.trans (hE4.trans hE5))
  have b05 := b01.ext0 hEE
  have b15 := b1.ext0 (hE1.trans hEE)
  have j0 := b05.cell 0 rfl
  have j1 := b05.cell 1 rfl
  obtain ⟨qa, qc, ql, rfl, q1, q2, q3⟩ := hqu5
  obtain ⟨da, dc, dl, rfl, d1, d2, d3⟩ := hdu5
  have hfin := hid (hlow.out ql dl q2 d2)
  have hEf := hE.trans (hE1.trans hEE)
  clear hqu hdu hru hru2 hou hug hlow q2 d2
  by_cases h1' : k / g = 1
  · have hf := hfin.out
    rw [if_pos h1'] at hf
    have hI : (cmpN (k / g) 1 == 0) = true := by rw [hcq.out]; exact decide_eq_true h1'
    generalize cmpN (k / g) 1 = cc at *
    clear hcq h1' hfin
    go_wp2_with ((with_reducible show wpList _ _ _ (⟨_, .store _ _ _, _, _, _, _⟩ :: _) _ _); refine st_storeBox stRat rfl rfl b15 rfl rfl (one3 _ _ _ _ _ _ _) ?_; intro w7 r1 r2)
    have h7 := (q3.mono (NatIn.mono _) (le_store r2 (by omega) (by omega))).mono (NatIn.mono _) le_unbox
    exact bodyPost_ret (results_box rfl rfl stRat r1 rfl) rfl ⟨ExtX.box hEf r2 (by omega), _, rfl, s, qa, qc, ql, none, 0, [], rfl, q1, Nat.le_refl _, hf, h7, Sl.nil _ _ _ _⟩
  · have hf := hfin.out
    rw [if_neg h1'] at hf
    have hI : (cmpN (k / g) 1 == 0) = false := by rw [hcq.out]; exact decide_eq_false h1'
    generalize cmpN (k / g) 1 = cc at *
    clear hcq h1' hfin
    go_wp2_with ((with_reducible show wpList _ _ _ (⟨_, .store _ _ _, _, _, _, _⟩ :: _) _ _); refine st_storeBox stRat rfl rfl b15 rfl rfl (one3 _ _ _ _ _ _ _) ?_; intro w7 r1 r2)
    have h7 := (q3.mono (NatIn.mono _) (le_store r2 (by omega) (by omega))).mono (NatIn.mono _) le_unbox
    have h8 := (d3.mono (NatIn.mono _) (le_store r2 (by omega) (by omega))).mono (NatIn.mono _) le_unbox
    exact bodyPost_ret (results_box rfl rfl stRat r1 rfl) rfl ⟨ExtX.box hEf r2 (by omega), _, rfl, s, qa, qc, ql, da, dc, dl, rfl, q1, d1, hf, h7, h8⟩
theorem qfrom (X : Nat -> Bool) (w : World) (v : Int) (hX : HX X w) (h1 : -9223372036854775808 <= v) (h2 : v <= 9223372036854775807) : Calls Tryz.prog 150 #[.int .i64 v] w (ROut X w QC v) := by
  obtain ⟨W, hW, hE, b0, hz⟩ := boxes1 w #[.bool false, .slice none 0 0, .slice none 0 0] 41
  have hXW : HX (hidB X w.heap.size 1) W := hX.boxes hz
  obtain ⟨b, hb⟩ : ∃ b, w.heap.size = b := ⟨_, rfl⟩
  have hbw : w.heap.size <= b := by omega
  rw [hb] at b0 hz hXW
  have h1' := hid h1
  have h2' := hid h2
  clear h1 h2
  go_enter Tryz.func150, Tryz.ntmps150
  go_wp2_with fail
  refine (ifrom (hidB X b 1) W v hXW h1'.out h2'.out).mono ?_
  rintro e1 w1 ⟨hE1, u1, rfl, s6, a6, c6, l6, rfl, h61, h62, h63⟩
  have b1' := b0.ext0 hE1
  have hcq := CanQ.ofInt h62
  go_wp2_with ((with_reducible show wpList _ _ _ (⟨_, .store _ _ _, _, _, _, _⟩ :: _) _ _); refine st_storeBox stRat rfl rfl b1' rfl rfl (one3 _ _ _ _ _ _ _) ?_; intro w7 r1 r2)
  have h7 := (h63.mono (NatIn.mono _) (le_store r2 (by omega) (by omega))).mono (NatIn.mono _) le_unbox
  exact bodyPost_ret (results_box rfl rfl stRat r1 rfl) rfl ⟨ExtX.box (hE.trans hE1) r2 (by omega), _, rfl, s6, a6, c6, l6, none, 0, [], rfl, h61, Nat.le_refl _, hcq, h7, Sl.nil _ _ _ _⟩
end Go.Proofs.YtnnpfhoigmegcaaGreat
namespace Go.Proofs.YtnnpfhoigmegcaaGreat
open Go.RowKit Go.Rep Go.Lim
set_option maxRecDepth 100000 in
set_option maxHeartbeats 1600000 in
theorem qadd (X : Nat -> Bool) (w : World) (u v : Value) (x y : Rat) (hX : HX X w) (hu : QV (mk X w) u x) (hv : QV (mk X w) v y) : Calls Tryz.prog 182 #[u, v] w (ROut X w QC (x + y)) := by
  have hlx := hid hu.hq
  have hly := hid hv.hq
  obtain ⟨s1, a1, n1, c1, d1, k1, e1, rfl⟩ := hu.shape
  obtain ⟨s2, a2, n2, c2, d2, k2, e2, rfl⟩ := hv.shape
  obtain ⟨W, hW, hE, b0, b1, b2, hz⟩ := boxes3 w #[.bool s1, .slice a1 n1 c1, .slice d1 k1 e1] #[.bool s2, .slice a2 n2 c2, .slice d2 k2 e2] #[.bool false, .slice none 0 0, .slice none 0 0] 41 41 41
  have hXW : HX (hidB X w.heap.size 3) W := hX.boxes hz
  have hu1 := QV.mono _ _ _ _ (le_boxes (nb := 3) hE) hu
  have hv1 := QV.mono _ _ _ _ (le_boxes (nb := 3) hE) hv
  obtain ⟨b, hb⟩ : ∃ b, w.heap.size = b := ⟨_, rfl⟩
  have hbw : w.heap.size <= b := by omega
  rw [hb] at b0 b1 b2 hz hXW hu1 hv1
  have hEd : Ext W W.drew := (ExtX.refl W).drew
  have hXd : HX (hidB X b 3) W.drew := hXW
  have hud : QV (mk (hidB X b 3) W.drew) (.agg #[.bool s1, .slice a1 n1 c1, .slice d1 k1 e1]) x := hu1
  have hvd : QV (mk (hidB X b 3) W.drew) (.agg #[.bool s2, .slice a2 n2 c2, .slice d2 k2 e2]) y := hv1
  have k00 := b0.cell 0 rfl
  have k01 := b0.cell 1 rfl
  have k02 := b0.cell 2 rfl
  have k10 := b1.cell 0 rfl
  have k11 := b1.cell 1 rfl
  have k12 := b1.cell 2 rfl
  clear hu hv
  go_enter Tryz.func182, Tryz.ntmps182
  go_upto_region 1 with (fail)
  go_cut [] from 5 to 8 (fun wx => ∃ s3 a3 n3 c3 d3 k3 e3 s4 a4 n4 c4 d4 k4 e4, Bx wx b #[.bool s3, .slice a3 n3 c3, .slice d3 k3 e3] 41 /\ Bx wx (b + 1) #[.bool s4, .slice a4 n4 c4, .slice d4 k4 e4] 41 /\ Bx wx (b + 1 + 1) #[.bool false, .slice none 0 0, .slice none 0 0] 41 /\ QC (mk (hidB X b 3) wx) (.agg #[.bool s3, .slice a3 n3 c3, .slice d3 k3 e3]) x /\ QC (mk (hidB X b 3) wx) (.agg #[.bool s4, .slice a4 n4 c4, .slice d4 k4 e4]) y /\ Ext w wx)
  case first =>
    go_region_with (first | (go_at_call 207; (with_reducible refine (qvalue (hidB X b 3) W.drew _ x hXd hud).mono ?_); rintro ee w5 ⟨hE5, u5, rfl, hq5⟩; obtain ⟨s5, a5, n5, c5, d5, k5, e5, rfl⟩ := hq5.shape; have bb0 := b0.ext0 (hEd.trans hE5); have bb1 := b1.ext0 (hEd.trans hE5); have e00 := bb0.cell 0 rfl; have e01 := bb0.cell 1 rfl; have e02 := bb0.cell 2 rfl; have e10 := bb1.cell 0 rfl; have e11 := bb1.cell 1 rfl; have e12 := bb1.cell 2 rfl) | (go_at_call 207; (with_reducible refine (qvalue (hidB X b 3) w5 _ y (HX.ext hXd hE5) (mkx QV.mono hvd hE5)).mono ?_); rintro ee w6 ⟨hE6, u6, rfl, hq6⟩; obtain ⟨s6, a6, n6, c6, d6, k6, e6, rfl⟩ := hq6.shape; have bb2 := bb0.ext0 hE6; have bb3 := bb1.ext0 hE6; have g00 := bb2.cell 0 rfl; have g01 := bb2.cell 1 rfl; have g02 := bb2.cell 2 rfl; have g10 := bb3.cell 0 rfl; have g11 := bb3.cell 1 rfl; have g12 := bb3.cell 2 rfl; have fr0 := bb2.frozen 0; have fr1 := bb2.frozen 1; have fr4 := bb2.frozen 2; have fr2 := bb3.frozen 0; have fr3 := bb3.frozen 1; have fr5 := bb3.frozen 2))
    all_goals
      obtain ⟨wf, hwf, q0, q1, q2, q3, q4⟩ := two_stores3 (X := X) (nb := 3) bb2 bb3 (hE.trans ((hEd.trans hE5).trans hE6)) hbw (by omega) (.bool s5) (.slice a5 n5 c5) (.slice d5 k5 e5) (.bool s6) (.slice a6 n6 c6) (.slice d6 k6 e6)
      rw [hwf]
      have hfx : QC (mk (hidB X b 3) wf) (.agg #[.bool s5, .slice a5 n5 c5, .slice d5 k5 e5]) x := QC.mono _ _ _ _ q4 (mkx QC.mono hq5 hE6)
      have hfy : QC (mk (hidB X b 3) wf) (.agg #[.bool s6, .slice a6 n6 c6, .slice d6 k6 e6]) y := QC.mono _ _ _ _ q4 hq6
      have q5 := q2 (b + 1 + 1) _ _ (by omega) (by omega) ((b2.ext0 (hEd.trans hE5)).ext0 hE6)
      clear e00 e01 e02 e10 e11 e12 g00 g01 g02 g10 g11 g12 fr0 fr1 fr2 fr3 fr4 fr5 k00 k01 k02 k10 k11 k12 hwf
      go_wp2_with fail
      go_meet
      exact ⟨_, _, _, _, _, _, _, _, _, _, _, _, _, _, q0, q1, q5, hfx, hfy, q3⟩
  case rest =>
    clear k00 k01 k02 k10 k11 k12 b0 b1 b2 hu1 hv1 hud hvd hXd hEd hW
    obtain ⟨s3, a3, n3, c3, d3, k3, e3, s4, a4, n4, c4, d4, k4, e4, b0, b1, b2, hx, hy, hE1⟩ := hcut
    have hzz : w.heap.size + 3 <= wc.heap.size := by have := b2.lt; omega
    obtain ⟨hxz, hxm, hxdn⟩ := hx.num
    obtain ⟨hyz, hym, hydn⟩ := hy.num
    have hXc : HX (hidB X b 3) wc := hX.boxes' hE1 (by have := hzz; omega) hzz
    have k00 := b0.cell 0 rfl
    have k01 := b0.cell 1 rfl
    have k02 := b0.cell 2 rfl
    have k10 := b1.cell 0 rfl
    have k11 := b1.cell 1 rfl
    have k12 := b1.cell 2 rfl
    have hEd : Ext wc wc.drew := (ExtX.refl wc).drew
    have hXd : HX (hidB X b 3) wc.drew := hXc
    have hxd : QC (mk (hidB X b 3) wc.drew) (.agg #[.bool s3, .slice a3 n3 c3, .slice d3 k3 e3]) x := hx
    have hyd : QC (mk (hidB X b 3) wc.drew) (.agg #[.bool s4, .slice a4 n4 c4, .slice d4 k4 e4]) y := hy
    have hxzd : ZC (mk (hidB X b 3) wc.drew) (.agg #[.bool s3, .slice a3 n3 c3]) x.num := hxz
    have hyzd : ZC (mk (hidB X b 3) wc.drew) (.agg #[.bool s4, .slice a4 n4 c4]) y.num := hyz
    have bxn : lg x.num.natAbs <= 549755813888 := Nat.le_trans (Nat.le_trans (hq_num x) hlx.out) (by omega)
    have byn : lg y.num.natAbs <= 549755813888 := Nat.le_trans (Nat.le_trans (hq_num y) hly.out) (by omega)
    have bxd : lg x.den <= 549755813888 := Nat.le_trans (Nat.le_trans (hq_den x) hlx.out) (by omega)
    have byd : lg y.den <= 549755813888 := Nat.le_trans (Nat.le_trans (hq_den y) hly.out) (by omega)
    have bp1 : lg (x.num * (y.den : Int)).natAbs <= 274877906944 := by rw [Int.natAbs_mul, Int.natAbs_natCast]; have := lg_mul x.num.natAbs y.den; have := hq_num x; have := hq_den y; have := hlx.out; have := hly.out; omega
    have bp2 : lg (y.num * (x.den : Int)).natAbs <= 274877906944 := by rw [Int.natAbs_mul, Int.natAbs_natCast]; have := lg_mul y.num.natAbs x.den; have := hq_num y; have := hq_den x; have := hlx.out; have := hly.out; omega
    have bdd : lg (x.den * y.den) <= 274877906944 := by have := lg_mul x.den y.den; have := hq_den x; have := hq_den y; have := hlx.out; have := hly.out; omega
    have bnn : lg (x.num * y.num).natAbs <= 274877906944 := by rw [Int.natAbs_mul]; have := lg_mul x.num.natAbs y.num.natAbs; have := hq_num x; have := hq_num y; have := hlx.out; have := hly.out; omega
    have bd0 : 0 < x.den * y.den := Nat.mul_pos x.den_pos y.den_pos
    have hB := hid (And.intro b0 b1)
    have hS : Hid (∀ W', Ext wc.drew W' -> W'.cell? ⟨b, 0, none⟩ = some (.bool s3) /\ W'.cell? ⟨b, 1, none⟩ = some (.slice a3 n3 c3) /\ W'.cell? ⟨b, 2, none⟩ = some (.slice d3 k3 e3) /\ W'.cell? ⟨b + 1, 0, none⟩ = some (.bool s4) /\ W'.cell? ⟨b + 1, 1, none⟩ = some (.slice a4 n4 c4) /\ W'.cell? ⟨b + 1, 2, none⟩ = some (.slice d4 k4 e4)) :=
      hid fun W' h => ⟨(b0.ext0 (hEd.trans h)).cell 0 rfl, (b0.ext0 (hEd.trans h)).cell 1 rfl, (b0.ext0 (hEd.trans h)).cell 2 rfl, (b1.ext0 (hEd.trans h)).cell 0 rfl, (b1.ext0 (hEd.trans h)).cell 1 rfl, (b1.ext0 (hEd.trans h)).cell 2 rfl⟩
    have hl3 := hxdn.len0
    have hl4 := hydn.len0
    rw [dn_zero] at hl3 hl4
    have bsum : lg (x.num * (y.den : Int) + y.num * (x.den : Int)).natAbs <= 549755813888 := by
      have h1 := lg_mono (Int.natAbs_add_le (x.num * (y.den : Int)) (y.num * (x.den : Int)))
      have h2 := lg_add (x.num * (y.den : Int)).natAbs (y.num * (x.den : Int)).natAbs
      omega
    have hfin : Hid (mkRat (x.num * (y.den : Int) + y.num * (x.den : Int)) (x.den * y.den) = x + y) := hid (Rat.add_def' x y).symm
    by_cases hk : k3 = 0 /\ k4 = 0
    · have hd3 := hid (hl3.1 hk.1)
      have hd4 := hid (hl4.1 hk.2)
      obtain ⟨rfl, rfl⟩ := hk
      have hsum : Hid (((x.num + y.num : Int) : Rat) = x + y) := hid (by
        rw [Rat.intCast_add]
        conv => rhs; rw [<- Rat.mkRat_self x, <- Rat.mkRat_self y]
        rw [hd3.out, hd4.out, <- Rat.mk_den_one, <- Rat.mk_den_one, Rat.mk_eq_mkRat, Rat.mk_eq_mkRat])
      clear hl3 hl4
      go_wp2_with fail
      refine (iadd (hidB X b 3) wc _ _ _ _ hXc (hxz.zv bxn) (hyz.zv byn)).mono ?_
      rintro ee w5 ⟨hE5, u5, rfl, s6, a6, c6, l6, rfl, h61, h62, h63⟩
      have b2' := b2.ext0 hE5
      have hcq := CanQ.ofInt h62
      rw [hsum.out] at hcq
      clear k00 k01 k02 k10 k11 k12
      go_wp2_with ((with_reducible show wpList _ _ _ (⟨_, .store _ _ _, _, _, _, _⟩ :: _) _ _); refine st_storeBox stRat rfl rfl b2' rfl rfl (one3 _ _ _ _ _ _ _) ?_; intro w7 r1 r2)
      have h7 := (h63.mono (NatIn.mono _) (le_store r2 (by omega) (by omega))).mono (NatIn.mono _) le_unbox
      exact bodyPost_ret (results_box rfl rfl stRat r1 rfl) rfl ⟨ExtX.box (hE1.trans hE5) r2 (by omega), _, rfl, s6, a6, c6, l6, none, 0, [], rfl, h61, Nat.le_refl _, hcq, h7, Sl.nil _ _ _ _⟩
    · have hk3 : Hid (¬ (k3 = 0 /\ k4 = 0)) := hid hk
      rcases (by omega : ¬ k3 = 0 \/ (k3 = 0 /\ ¬ k4 = 0)) with h3 | ⟨h3, h4⟩
      · have hI : ((k3 : Int) == 0) = false := beqF (by omega)
        clear hk hl3 hl4 h3
        go_wp2_with fail
        go_region_held3 (fun w' => w'.cell? ⟨b, 0, none⟩ = some (.bool s3) /\ w'.cell? ⟨b, 1, none⟩ = some (.slice a3 n3 c3) /\ w'.cell? ⟨b, 2, none⟩ = some (.slice d3 k3 e3) /\ w'.cell? ⟨b + 1, 0, none⟩ = some (.bool s4) /\ w'.cell? ⟨b + 1, 1, none⟩ = some (.slice a4 n4 c4) /\ w'.cell? ⟨b + 1, 2, none⟩ = some (.slice d4 k4 e4))
          (first | exact hS.out _ t1 | exact hS.out _ t2 | exact hS.out _ t3 | exact hS.out _ t4 | exact hS.out _ t5 | exact hS.out _ t6 | exact hS.out _ t7 | exact hS.out _ t8 | exact hS.out _ t9 | exact ⟨((hB.out.1.ext0 (hEd.trans t9)).ext (bb2.set3 _ _ _).2 (ob_other (by omega))).cell 0 rfl, ((hB.out.1.ext0 (hEd.trans t9)).ext (bb2.set3 _ _ _).2 (ob_other (by omega))).cell 1 rfl, ((hB.out.1.ext0 (hEd.trans t9)).ext (bb2.set3 _ _ _).2 (ob_other (by omega))).cell 2 rfl, ((hB.out.2.ext0 (hEd.trans t9)).ext (bb2.set3 _ _ _).2 (ob_other (by omega))).cell 0 rfl, ((hB.out.2.ext0 (hEd.trans t9)).ext (bb2.set3 _ _ _).2 (ob_other (by omega))).cell 1 rfl, ((hB.out.2.ext0 (hEd.trans t9)).ext (bb2.set3 _ _ _).2 (ob_other (by omega))).cell 2 rfl⟩ | go_keep)
          (first | (go_at_call 235; (with_reducible refine (qden (hidB X b 3) wc.drew _ y hXd hyd).mono ?_); rintro ee w5 ⟨t1, u5, rfl, hu5⟩; have hX5 := HX.ext hXd t1; have hx5 := mkx ZC.mono hxzd t1) | (go_at_call 260; (with_reducible refine (qtimes (hidB X b 3) w5 _ _ x.num y.den hX5 hx5 hu5 bxn byd).mono ?_); rintro ee w6 ⟨hE6, u6, rfl, hu6⟩; have t2 := t1.trans hE6; have hX6 := HX.ext hXd t2; have hx6 := mkx QC.mono hxd t2) | (go_at_call 235; (with_reducible refine (qden (hidB X b 3) w6 _ x hX6 hx6).mono ?_); rintro ee w7 ⟨hE7, u7, rfl, hu7⟩; have t3 := t2.trans hE7; have hX7 := HX.ext hXd t3; have hy7 := mkx ZC.mono hyzd t3) | (go_at_call 260; (with_reducible refine (qtimes (hidB X b 3) w7 _ _ y.num x.den hX7 hy7 hu7 byn bxd).mono ?_); rintro ee w8 ⟨hE8, u8, rfl, hu8⟩; have t4 := t3.trans hE8; have hX8 := HX.ext hXd t4; have hz6 := (mkx ZC.mono hu6 (hE7.trans hE8)).zv (Nat.le_trans bp1 (by decide)); have hz8 := hu8.zv (Nat.le_trans bp2 (by decide))) | (go_at_call 264; (with_reducible refine (iadd (hidB X b 3) w8 _ _ _ _ hX8 hz6 hz8).mono ?_); rintro ee w9 ⟨hE9, u9, rfl, hu9⟩; have t5 := t4.trans hE9; have hX9 := HX.ext hXd t5; have hx9 := mkx QC.mono hxd t5) | (go_at_call 235; (with_reducible refine (qden (hidB X b 3) w9 _ x hX9 hx9).mono ?_); rintro ee w10 ⟨hE10, u10, rfl, hu10⟩; have t6 := t5.trans hE10; have hX10 := HX.ext hXd t6; have hy10 := mkx QC.mono hyd t6) | (go_at_call 235; (with_reducible refine (qden (hidB X b 3) w10 _ y hX10 hy10).mono ?_); rintro ee w11 ⟨hE11, u11, rfl, hu11⟩; have t7 := t6.trans hE11; have hX11 := HX.ext hXd t7; have hm10 := (mkx NC.mono hu10 hE11).nv (Nat.le_trans bxd (by decide)); have hm11 := hu11.nv (Nat.le_trans byd (by decide))) | (go_at_call 234; (with_reducible refine (nmul hX11 hm10 hm11).mono ?_); rintro ee w12 ⟨hE12, u12, rfl, hu12⟩; have t8 := t7.trans hE12; have hX12 := HX.ext hXd t8; have hz9 := mkx ZC.mono hu9 (hE10.trans (hE11.trans hE12))) | (go_at_call 233; (with_reducible refine (qlowest (hidB X b 3) w12 _ _ _ _ hX12 hz9 hu12 bsum (Nat.le_trans bdd (by decide)) bd0).mono ?_); rintro ee w13 ⟨hE13, u13, rfl, hu13⟩; obtain ⟨s13, a13, n13, c13, d13, k13, e13, rfl⟩ := hu13.shape; have t9 := t8.trans hE13; have bb2 := b2.ext0 (hEd.trans t9); have g0 := bb2.cell 0 rfl; have g1 := bb2.cell 1 rfl; have g2 := bb2.cell 2 rfl; have f0 := bb2.frozen 0; have f1 := bb2.frozen 1; have f2 := bb2.frozen 2))
        obtain ⟨r1, r2⟩ := bb2.set3 (.bool s13) (.slice a13 n13 c13) (.slice d13 k13 e13)
        have h7 := QC.mono _ _ _ _ le_unbox (QC.mono _ _ _ _ (le_store r2 (by omega) (by omega)) hu13)
        rw [hfin.out] at h7
        have hEf : Ext w _ := ExtX.box (hE1.trans (hEd.trans t9)) r2 (by omega)
        clear g0 g1 g2 f0 f1 f2 k00 k01 k02 k10 k11 k12 hS hB
        go_wp2_with fail
        exact bodyPost_ret (results_box rfl rfl stRat r1 rfl) rfl ⟨hEf, _, rfl, h7⟩
      · have hI : ((k4 : Int) == 0) = false := beqF (by omega)
        subst h3
        clear hk hl3 hl4 h4
        go_wp2_with fail
        go_region_held3 (fun w' => w'.cell? ⟨b, 0, none⟩ = some (.bool s3) /\ w'.cell? ⟨b, 1, none⟩ = some (.slice a3 n3 c3) /\ w'.cell? ⟨b, 2, none⟩ = some (.slice d3 0 e3) /\ w'.cell? ⟨b + 1, 0, none⟩ = some (.bool s4) /\ w'.cell? ⟨b + 1, 1, none⟩ = some (.slice a4 n4 c4) /\ w'.cell? ⟨b + 1, 2, none⟩ = some (.slice d4 k4 e4))
          (first | exact hS.out _ t1 | exact hS.out _ t2 | exact hS.out _ t3 | exact hS.out _ t4 | exact hS.out _ t5 | exact hS.out _ t6 | exact hS.out _ t7 | exact hS.out _ t8 | exact hS.out _ t9 | exact ⟨((hB.out.1.ext0 (hEd.trans t9)).ext (bb2.set3 _ _ _).2 (ob_other (by omega))).cell 0 rfl, ((hB.out.1.ext0 (hEd.trans t9)).ext (bb2.set3 _ _ _).2 (ob_other (by omega))).cell 1 rfl, ((hB.out.1.ext0 (hEd.trans t9)).ext (bb2.set3 _ _ _).2 (ob_other (by omega))).cell 2 rfl, ((hB.out.2.ext0 (hEd.trans t9)).ext (bb2.set3 _ _ _).2 (ob_other (by omega))).cell 0 rfl, ((hB.out.2.ext0 (hEd.trans t9)).ext (bb2.set3 _ _ _).2 (ob_other (by omega))).cell 1 rfl, ((hB.out.2.ext0 (hEd.trans t9)).ext (bb2.set3 _ _ _).2 (ob_other (by omega))).cell 2 rfl⟩ | go_keep)
          (first | (go_at_call 235; (with_reducible refine (qden (hidB X b 3) wc.drew _ y hXd hyd).mono ?_); rintro ee w5 ⟨t1, u5, rfl, hu5⟩; have hX5 := HX.ext hXd t1; have hx5 := mkx ZC.mono hxzd t1) | (go_at_call 260; (with_reducible refine (qtimes (hidB X b 3) w5 _ _ x.num y.den hX5 hx5 hu5 bxn byd).mono ?_); rintro ee w6 ⟨hE6, u6, rfl, hu6⟩; have t2 := t1.trans hE6; have hX6 := HX.ext hXd t2; have hx6 := mkx QC.mono hxd t2) | (go_at_call 235; (with_reducible refine (qden (hidB X b 3) w6 _ x hX6 hx6).mono ?_); rintro ee w7 ⟨hE7, u7, rfl, hu7⟩; have t3 := t2.trans hE7; have hX7 := HX.ext hXd t3; have hy7 := mkx ZC.mono hyzd t3) | (go_at_call 260; (with_reducible refine (qtimes (hidB X b 3) w7 _ _ y.num x.den hX7 hy7 hu7 byn bxd).mono ?_); rintro ee w8 ⟨hE8, u8, rfl, hu8⟩; have t4 := t3.trans hE8; have hX8 := HX.ext hXd t4; have hz6 := (mkx ZC.mono hu6 (hE7.trans hE8)).zv (Nat.le_trans bp1 (by decide)); have hz8 := hu8.zv (Nat.le_trans bp2 (by decide))) | (go_at_call 264; (with_reducible refine (iadd (hidB X b 3) w8 _ _ _ _ hX8 hz6 hz8).mono ?_); rintro ee w9 ⟨hE9, u9, rfl, hu9⟩; have t5 := t4.trans hE9; have hX9 := HX.ext hXd t5; have hx9 := mkx QC.mono hxd t5) | (go_at_call 235; (with_reducible refine (qden (hidB X b 3) w9 _ x hX9 hx9).mono ?_); rintro ee w10 ⟨hE10, u10, rfl, hu10⟩; have t6 := t5.trans hE10; have hX10 := HX.ext hXd t6; have hy10 := mkx QC.mono hyd t6) | (go_at_call 235; (with_reducible refine (qden (hidB X b 3) w10 _ y hX10 hy10).mono ?_); rintro ee w11 ⟨hE11, u11, rfl, hu11⟩; have t7 := t6.trans hE11; have hX11 := HX.ext hXd t7; have hm10 := (mkx NC.mono hu10 hE11).nv (Nat.le_trans bxd (by decide)); have hm11 := hu11.nv (Nat.le_trans byd (by decide))) | (go_at_call 234; (with_reducible refine (nmul hX11 hm10 hm11).mono ?_); rintro ee w12 ⟨hE12, u12, rfl, hu12⟩; have t8 := t7.trans hE12; have hX12 := HX.ext hXd t8; have hz9 := mkx ZC.mono hu9 (hE10.trans (hE11.trans hE12))) | (go_at_call 233; (with_reducible refine (qlowest (hidB X b 3) w12 _ _ _ _ hX12 hz9 hu12 bsum (Nat.le_trans bdd (by decide)) bd0).mono ?_); rintro ee w13 ⟨hE13, u13, rfl, hu13⟩; obtain ⟨s13, a13, n13, c13, d13, k13, e13, rfl⟩ := hu13.shape; have t9 := t8.trans hE13; have bb2 := b2.ext0 (hEd.trans t9); have g0 := bb2.cell 0 rfl; have g1 := bb2.cell 1 rfl; have g2 := bb2.cell 2 rfl; have f0 := bb2.frozen 0; have f1 := bb2.frozen 1; have f2 := bb2.frozen 2))
        obtain ⟨r1, r2⟩ := bb2.set3 (.bool s13) (.slice a13 n13 c13) (.slice d13 k13 e13)
        have h7 := QC.mono _ _ _ _ le_unbox (QC.mono _ _ _ _ (le_store r2 (by omega) (by omega)) hu13)
        rw [hfin.out] at h7
        have hEf : Ext w _ := ExtX.box (hE1.trans (hEd.trans t9)) r2 (by omega)
        clear g0 g1 g2 f0 f1 f2 k00 k01 k02 k10 k11 k12 hS hB
        go_wp2_with fail
        exact bodyPost_ret (results_box rfl rfl stRat r1 rfl) rfl ⟨hEf, _, rfl, h7⟩
end Go.Proofs.YtnnpfhoigmegcaaGreat
namespace Go.Proofs.YtnnpfhoigmegcaaGreat
open Go.RowKit Go.Rep Go.Lim
set_option maxRecDepth 100000 in
set_option maxHeartbeats 1600000 in
theorem qmul (X : Nat -> Bool) (w : World) (u v : Value) (x y : Rat) (hX : HX X w) (hu : QV (mk X w) u x) (hv : QV (mk X w) v y) : Calls Tryz.prog 151 #[u, v] w (ROut X w QC (x * y)) := by
  have hlx := hid hu.hq
  have hly := hid hv.hq
  obtain ⟨s1, a1, n1, c1, d1, k1, e1, rfl⟩ := hu.shape
  obtain ⟨s2, a2, n2, c2, d2, k2, e2, rfl⟩ := hv.shape
  obtain ⟨W, hW, hE, b0, b1, b2, hz⟩ := boxes3 w #[.bool s1, .slice a1 n1 c1, .slice d1 k1 e1] #[.bool s2, .slice a2 n2 c2, .slice d2 k2 e2] #[.bool false, .slice none 0 0, .slice none 0 0] 41 41 41
  have hXW : HX (hidB X w.heap.size 3) W := hX.boxes hz
  have hu1 := QV.mono _ _ _ _ (le_boxes (nb := 3) hE) hu
  have hv1 := QV.mono _ _ _ _ (le_boxes (nb := 3) hE) hv
  obtain ⟨b, hb⟩ : ∃ b, w.heap.size = b := ⟨_, rfl⟩
  have hbw : w.heap.size <= b := by omega
  rw [hb] at b0 b1 b2 hz hXW hu1 hv1
  have hEd : Ext W W.drew := (ExtX.refl W).drew
  have hXd : HX (hidB X b 3) W.drew := hXW
  have hud : QV (mk (hidB X b 3) W.drew) (.agg #[.bool s1, .slice a1 n1 c1, .slice d1 k1 e1]) x := hu1
  have hvd : QV (mk (hidB X b 3) W.drew) (.agg #[.bool s2, .slice a2 n2 c2, .slice d2 k2 e2]) y := hv1
  have k00 := b0.cell 0 rfl
  have k01 := b0.cell 1 rfl
  have k02 := b0.cell 2 rfl
  have k10 := b1.cell 0 rfl
  have k11 := b1.cell 1 rfl
  have k12 := b1.cell 2 rfl
  clear hu hv
  go_enter Tryz.func151, Tryz.ntmps151
  go_upto_region 1 with (fail)
  go_cut [] from 5 to 8 (fun wx => ∃ s3 a3 n3 c3 d3 k3 e3 s4 a4 n4 c4 d4 k4 e4, Bx wx b #[.bool s3, .slice a3 n3 c3, .slice d3 k3 e3] 41 /\ Bx wx (b + 1) #[.bool s4, .slice a4 n4 c4, .slice d4 k4 e4] 41 /\ Bx wx (b + 1 + 1) #[.bool false, .slice none 0 0, .slice none 0 0] 41 /\ QC (mk (hidB X b 3) wx) (.agg #[.bool s3, .slice a3 n3 c3, .slice d3 k3 e3]) x /\ QC (mk (hidB X b 3) wx) (.agg #[.bool s4, .slice a4 n4 c4, .slice d4 k4 e4]) y /\ Ext w wx)
  case first =>
    go_region_with (first | (go_at_call 207; (with_reducible refine (qvalue (hidB X b 3) W.drew _ x hXd hud).mono ?_); rintro ee w5 ⟨hE5, u5, rfl, hq5⟩; obtain ⟨s5, a5, n5, c5, d5, k5, e5, rfl⟩ := hq5.shape; have bb0 := b0.ext0 (hEd.trans hE5); have bb1 := b1.ext0 (hEd.trans hE5); have e00 := bb0.cell 0 rfl; have e01 := bb0.cell 1 rfl; have e02 := bb0.cell 2 rfl; have e10 := bb1.cell 0 rfl; have e11 := bb1.cell 1 rfl; have e12 := bb1.cell 2 rfl) | (go_at_call 207; (with_reducible refine (qvalue (hidB X b 3) w5 _ y (HX.ext hXd hE5) (mkx QV.mono hvd hE5)).mono ?_); rintro ee w6 ⟨hE6, u6, rfl, hq6⟩; obtain ⟨s6, a6, n6, c6, d6, k6, e6, rfl⟩ := hq6.shape; have bb2 := bb0.ext0 hE6; have bb3 := bb1.ext0 hE6; have g00 := bb2.cell 0 rfl; have g01 := bb2.cell 1 rfl; have g02 := bb2.cell 2 rfl; have g10 := bb3.cell 0 rfl; have g11 := bb3.cell 1 rfl; have g12 := bb3.cell 2 rfl; have fr0 := bb2.frozen 0; have fr1 := bb2.frozen 1; have fr4 := bb2.frozen 2; have fr2 := bb3.frozen 0; have fr3 := bb3.frozen 1; have fr5 := bb3.frozen 2))
    all_goals
      obtain ⟨wf, hwf, q0, q1, q2, q3, q4⟩ := two_stores3 (X := X) (nb := 3) bb2 bb3 (hE.trans ((hEd.trans hE5).trans hE6)) hbw (by omega) (.bool s5) (.slice a5 n5 c5) (.slice d5 k5 e5) (.bool s6) (.slice a6 n6 c6) (.slice d6 k6 e6)
      rw [hwf]
      have hfx : QC (mk (hidB X b 3) wf) (.agg #[.bool s5, .slice a5 n5 c5, .slice d5 k5 e5]) x := QC.mono _ _ _ _ q4 (mkx QC.mono hq5 hE6)
      have hfy : QC (mk (hidB X b 3) wf) (.agg #[.bool s6, .slice a6 n6 c6, .slice d6 k6 e6]) y := QC.mono _ _ _ _ q4 hq6
      have q5 := q2 (b + 1 + 1) _ _ (by omega) (by omega) ((b2.ext0 (hEd.trans hE5)).ext0 hE6)
      clear e00 e01 e02 e10 e11 e12 g00 g01 g02 g10 g11 g12 fr0 fr1 fr2 fr3 fr4 fr5 k00 k01 k02 k10 k11 k12 hwf
      go_wp2_with fail
      go_meet
      exact ⟨_, _, _, _, _, _, _, _, _, _, _, _, _, _, q0, q1, q5, hfx, hfy, q3⟩
  case rest =>
    clear k00 k01 k02 k10 k11 k12 b0 b1 b2 hu1 hv1 hud hvd hXd hEd hW
    obtain ⟨s3, a3, n3, c3, d3, k3, e3, s4, a4, n4, c4, d4, k4, e4, b0, b1, b2, hx, hy, hE1⟩ := hcut
    have hzz : w.heap.size + 3 <= wc.heap.size := by have := b2.lt; omega
    obtain ⟨hxz, hxm, hxdn⟩ := hx.num
    obtain ⟨hyz, hym, hydn⟩ := hy.num
    have hXc : HX (hidB X b 3) wc := hX.boxes' hE1 (by have := hzz; omega) hzz
    have k00 := b0.cell 0 rfl
    have k01 := b0.cell 1 rfl
    have k02 := b0.cell 2 rfl
    have k10 := b1.cell 0 rfl
    have k11 := b1.cell 1 rfl
    have k12 := b1.cell 2 rfl
    have hEd : Ext wc wc.drew := (ExtX.refl wc).drew
    have hXd : HX (hidB X b 3) wc.drew := hXc
    have hxd : QC (mk (hidB X b 3) wc.drew) (.agg #[.bool s3, .slice a3 n3 c3, .slice d3 k3 e3]) x := hx
    have hyd : QC (mk (hidB X b 3) wc.drew) (.agg #[.bool s4, .slice a4 n4 c4, .slice d4 k4 e4]) y := hy
    have hxzd : ZC (mk (hidB X b 3) wc.drew) (.agg #[.bool s3, .slice a3 n3 c3]) x.num := hxz
    have hyzd : ZC (mk (hidB X b 3) wc.drew) (.agg #[.bool s4, .slice a4 n4 c4]) y.num := hyz
    have bxn : lg x.num.natAbs <= 549755813888 := Nat.le_trans (Nat.le_trans (hq_num x) hlx.out) (by omega)
    have byn : lg y.num.natAbs <= 549755813888 := Nat.le_trans (Nat.le_trans (hq_num y) hly.out) (by omega)
    have bxd : lg x.den <= 549755813888 := Nat.le_trans (Nat.le_trans (hq_den x) hlx.out) (by omega)
    have byd : lg y.den <= 549755813888 := Nat.le_trans (Nat.le_trans (hq_den y) hly.out) (by omega)
    have bp1 : lg (x.num * (y.den : Int)).natAbs <= 274877906944 := by rw [Int.natAbs_mul, Int.natAbs_natCast]; have := lg_mul x.num.natAbs y.den; have := hq_num x; have := hq_den y; have := hlx.out; have := hly.out; omega
    have bp2 : lg (y.num * (x.den : Int)).natAbs <= 274877906944 := by rw [Int.natAbs_mul, Int.natAbs_natCast]; have := lg_mul y.num.natAbs x.den; have := hq_num y; have := hq_den x; have := hlx.out; have := hly.out; omega
    have bdd : lg (x.den * y.den) <= 274877906944 := by have := lg_mul x.den y.den; have := hq_den x; have := hq_den y; have := hlx.out; have := hly.out; omega
    have bnn : lg (x.num * y.num).natAbs <= 274877906944 := by rw [Int.natAbs_mul]; have := lg_mul x.num.natAbs y.num.natAbs; have := hq_num x; have := hq_num y; have := hlx.out; have := hly.out; omega
    have bd0 : 0 < x.den * y.den := Nat.mul_pos x.den_pos y.den_pos
    have hB := hid (And.intro b0 b1)
    have hS : Hid (∀ W', Ext wc.drew W' -> W'.cell? ⟨b, 0, none⟩ = some (.bool s3) /\ W'.cell? ⟨b, 1, none⟩ = some (.slice a3 n3 c3) /\ W'.cell? ⟨b, 2, none⟩ = some (.slice d3 k3 e3) /\ W'.cell? ⟨b + 1, 0, none⟩ = some (.bool s4) /\ W'.cell? ⟨b + 1, 1, none⟩ = some (.slice a4 n4 c4) /\ W'.cell? ⟨b + 1, 2, none⟩ = some (.slice d4 k4 e4)) :=
      hid fun W' h => ⟨(b0.ext0 (hEd.trans h)).cell 0 rfl, (b0.ext0 (hEd.trans h)).cell 1 rfl, (b0.ext0 (hEd.trans h)).cell 2 rfl, (b1.ext0 (hEd.trans h)).cell 0 rfl, (b1.ext0 (hEd.trans h)).cell 1 rfl, (b1.ext0 (hEd.trans h)).cell 2 rfl⟩
    have hl3 := hxdn.len0
    have hl4 := hydn.len0
    rw [dn_zero] at hl3 hl4
    have hxv := hxzd.zv bxn
    have hyv := hyzd.zv byn
    have hfin : Hid (mkRat (x.num * y.num) (x.den * y.den) = x * y) := hid (Rat.mul_def' x y).symm
    by_cases hk : k3 = 0 /\ k4 = 0
    · have hd3 := hid (hl3.1 hk.1)
      have hd4 := hid (hl4.1 hk.2)
      obtain ⟨rfl, rfl⟩ := hk
      have hsum : Hid (((x.num * y.num : Int) : Rat) = x * y) := hid (by
        rw [Rat.intCast_mul]
        conv => rhs; rw [<- Rat.mkRat_self x, <- Rat.mkRat_self y]
        rw [hd3.out, hd4.out, <- Rat.mk_den_one, <- Rat.mk_den_one, Rat.mk_eq_mkRat, Rat.mk_eq_mkRat])
      clear hl3 hl4
      go_wp2_with fail
      refine (imul (hidB X b 3) wc _ _ _ _ hXc (hxz.zv bxn) (hyz.zv byn)).mono ?_
      rintro ee w5 ⟨hE5, u5, rfl, s6, a6, c6, l6, rfl, h61, h62, h63⟩
      have b2' := b2.ext0 hE5
      have hcq := CanQ.ofInt h62
      rw [hsum.out] at hcq
      clear k00 k01 k02 k10 k11 k12
      go_wp2_with ((with_reducible show wpList _ _ _ (⟨_, .store _ _ _, _, _, _, _⟩ :: _) _ _); refine st_storeBox stRat rfl rfl b2' rfl rfl (one3 _ _ _ _ _ _ _) ?_; intro w7 r1 r2)
      have h7 := (h63.mono (NatIn.mono _) (le_store r2 (by omega) (by omega))).mono (NatIn.mono _) le_unbox
      exact bodyPost_ret (results_box rfl rfl stRat r1 rfl) rfl ⟨ExtX.box (hE1.trans hE5) r2 (by omega), _, rfl, s6, a6, c6, l6, none, 0, [], rfl, h61, Nat.le_refl _, hcq, h7, Sl.nil _ _ _ _⟩
    · rcases (by omega : ¬ k3 = 0 \/ (k3 = 0 /\ ¬ k4 = 0)) with h3 | ⟨h3, h4⟩
      · have hI : ((k3 : Int) == 0) = false := beqF (by omega)
        clear hk hl3 hl4 h3
        go_wp2_with fail
        go_region_held3 (fun w' => w'.cell? ⟨b, 0, none⟩ = some (.bool s3) /\ w'.cell? ⟨b, 1, none⟩ = some (.slice a3 n3 c3) /\ w'.cell? ⟨b, 2, none⟩ = some (.slice d3 k3 e3) /\ w'.cell? ⟨b + 1, 0, none⟩ = some (.bool s4) /\ w'.cell? ⟨b + 1, 1, none⟩ = some (.slice a4 n4 c4) /\ w'.cell? ⟨b + 1, 2, none⟩ = some (.slice d4 k4 e4))
          (first | exact hS.out _ t1 | exact hS.out _ t2 | exact hS.out _ t3 | exact hS.out _ t4 | exact hS.out _ t5 | exact ⟨((hB.out.1.ext0 (hEd.trans t5)).ext (bb2.set3 _ _ _).2 (ob_other (by omega))).cell 0 rfl, ((hB.out.1.ext0 (hEd.trans t5)).ext (bb2.set3 _ _ _).2 (ob_other (by omega))).cell 1 rfl, ((hB.out.1.ext0 (hEd.trans t5)).ext (bb2.set3 _ _ _).2 (ob_other (by omega))).cell 2 rfl, ((hB.out.2.ext0 (hEd.trans t5)).ext (bb2.set3 _ _ _).2 (ob_other (by omega))).cell 0 rfl, ((hB.out.2.ext0 (hEd.trans t5)).ext (bb2.set3 _ _ _).2 (ob_other (by omega))).cell 1 rfl, ((hB.out.2.ext0 (hEd.trans t5)).ext (bb2.set3 _ _ _).2 (ob_other (by omega))).cell 2 rfl⟩ | go_keep)
          (first | (go_at_call 232; (with_reducible refine (imul (hidB X b 3) wc.drew _ _ _ _ hXd hxv hyv).mono ?_); rintro ee w5 ⟨t1, u5, rfl, hu5⟩; have hX5 := HX.ext hXd t1; have hx5 := mkx QC.mono hxd t1) | (go_at_call 235; (with_reducible refine (qden (hidB X b 3) w5 _ x hX5 hx5).mono ?_); rintro ee w6 ⟨hE6, u6, rfl, hu6⟩; have t2 := t1.trans hE6; have hX6 := HX.ext hXd t2; have hy6 := mkx QC.mono hyd t2) | (go_at_call 235; (with_reducible refine (qden (hidB X b 3) w6 _ y hX6 hy6).mono ?_); rintro ee w7 ⟨hE7, u7, rfl, hu7⟩; have t3 := t2.trans hE7; have hX7 := HX.ext hXd t3; have hm6 := (mkx NC.mono hu6 hE7).nv (Nat.le_trans bxd (by decide)); have hm7 := hu7.nv (Nat.le_trans byd (by decide))) | (go_at_call 234; (with_reducible refine (nmul hX7 hm6 hm7).mono ?_); rintro ee w8 ⟨hE8, u8, rfl, hu8⟩; have t4 := t3.trans hE8; have hX8 := HX.ext hXd t4; have hz5 := mkx ZC.mono hu5 (hE6.trans (hE7.trans hE8))) | (go_at_call 233; (with_reducible refine (qlowest (hidB X b 3) w8 _ _ _ _ hX8 hz5 hu8 (Nat.le_trans bnn (by decide)) (Nat.le_trans bdd (by decide)) bd0).mono ?_); rintro ee w13 ⟨hE13, u13, rfl, hu13⟩; obtain ⟨s13, a13, n13, c13, d13, k13, e13, rfl⟩ := hu13.shape; have t5 := t4.trans hE13; have bb2 := b2.ext0 (hEd.trans t5); have g0 := bb2.cell 0 rfl; have g1 := bb2.cell 1 rfl; have g2 := bb2.cell 2 rfl; have f0 := bb2.frozen 0; have f1 := bb2.frozen 1; have f2 := bb2.frozen 2))
        obtain ⟨r1, r2⟩ := bb2.set3 (.bool s13) (.slice a13 n13 c13) (.slice d13 k13 e13)
        have h7 := QC.mono _ _ _ _ le_unbox (QC.mono _ _ _ _ (le_store r2 (by omega) (by omega)) hu13)
        rw [hfin.out] at h7
        have hEf : Ext w _ := ExtX.box (hE1.trans (hEd.trans t5)) r2 (by omega)
        clear g0 g1 g2 f0 f1 f2 k00 k01 k02 k10 k11 k12 hS hB
        go_wp2_with fail
        exact bodyPost_ret (results_box rfl rfl stRat r1 rfl) rfl ⟨hEf, _, rfl, h7⟩
      · have hI : ((k4 : Int) == 0) = false := beqF (by omega)
        subst h3
        clear hk hl3 hl4 h4
        go_wp2_with fail
        go_region_held3 (fun w' => w'.cell? ⟨b, 0, none⟩ = some (.bool s3) /\ w'.cell? ⟨b, 1, none⟩ = some (.slice a3 n3 c3) /\ w'.cell? ⟨b, 2, none⟩ = some (.slice d3 0 e3) /\ w'.cell? ⟨b + 1, 0, none⟩ = some (.bool s4) /\ w'.cell? ⟨b + 1, 1, none⟩ = some (.slice a4 n4 c4) /\ w'.cell? ⟨b + 1, 2, none⟩ = some (.slice d4 k4 e4))
          (first | exact hS.out _ t1 | exact hS.out _ t2 | exact hS.out _ t3 | exact hS.out _ t4 | exact hS.out _ t5 | exact ⟨((hB.out.1.ext0 (hEd.trans t5)).ext (bb2.set3 _ _ _).2 (ob_other (by omega))).cell 0 rfl, ((hB.out.1.ext0 (hEd.trans t5)).ext (bb2.set3 _ _ _).2 (ob_other (by omega))).cell 1 rfl, ((hB.out.1.ext0 (hEd.trans t5)).ext (bb2.set3 _ _ _).2 (ob_other (by omega))).cell 2 rfl, ((hB.out.2.ext0 (hEd.trans t5)).ext (bb2.set3 _ _ _).2 (ob_other (by omega))).cell 0 rfl, ((hB.out.2.ext0 (hEd.trans t5)).ext (bb2.set3 _ _ _).2 (ob_other (by omega))).cell 1 rfl, ((hB.out.2.ext0 (hEd.trans t5)).ext (bb2.set3 _ _ _).2 (ob_other (by omega))).cell 2 rfl⟩ | go_keep)
          (first | (go_at_call 232; (with_reducible refine (imul (hidB X b 3) wc.drew _ _ _ _ hXd hxv hyv).mono ?_); rintro ee w5 ⟨t1, u5, rfl, hu5⟩; have hX5 := HX.ext hXd t1; have hx5 := mkx QC.mono hxd t1) | (go_at_call 235; (with_reducible refine (qden (hidB X b 3) w5 _ x hX5 hx5).mono ?_); rintro ee w6 ⟨hE6, u6, rfl, hu6⟩; have t2 := t1.trans hE6; have hX6 := HX.ext hXd t2; have hy6 := mkx QC.mono hyd t2) | (go_at_call 235; (with_reducible refine (qden (hidB X b 3) w6 _ y hX6 hy6).mono ?_); rintro ee w7 ⟨hE7, u7, rfl, hu7⟩; have t3 := t2.trans hE7; have hX7 := HX.ext hXd t3; have hm6 := (mkx NC.mono hu6 hE7).nv (Nat.le_trans bxd (by decide)); have hm7 := hu7.nv (Nat.le_trans byd (by decide))) | (go_at_call 234; (with_reducible refine (nmul hX7 hm6 hm7).mono ?_); rintro ee w8 ⟨hE8, u8, rfl, hu8⟩; have t4 := t3.trans hE8; have hX8 := HX.ext hXd t4; have hz5 := mkx ZC.mono hu5 (hE6.trans (hE7.trans hE8))) | (go_at_call 233; (with_reducible refine (qlowest (hidB X b 3) w8 _ _ _ _ hX8 hz5 hu8 (Nat.le_trans bnn (by decide)) (Nat.le_trans bdd (by decide)) bd0).mono ?_); rintro ee w13 ⟨hE13, u13, rfl, hu13⟩; obtain ⟨s13, a13, n13, c13, d13, k13, e13, rfl⟩ := hu13.shape; have t5 := t4.trans hE13; have bb2 := b2.ext0 (hEd.trans t5); have g0 := bb2.cell 0 rfl; have g1 := bb2.cell 1 rfl; have g2 := bb2.cell 2 rfl; have f0 := bb2.frozen 0; have f1 := bb2.frozen 1; have f2 := bb2.frozen 2))
        obtain ⟨r1, r2⟩ := bb2.set3 (.bool s13) (.slice a13 n13 c13) (.slice d13 k13 e13)
        have h7 := QC.mono _ _ _ _ le_unbox (QC.mono _ _ _ _ (le_store r2 (by omega) (by omega)) hu13)
        rw [hfin.out] at h7
        have hEf : Ext w _ := ExtX.box (hE1.trans (hEd.trans t5)) r2 (by omega)
        clear g0 g1 g2 f0 f1 f2 k00 k01 k02 k10 k11 k12 hS hB
        go_wp2_with fail
        exact bodyPost_ret (results_box rfl rfl stRat r1 rfl) rfl ⟨hEf, _, rfl, h7⟩
end Go.Proofs.YtnnpfhoigmegcaaGreat
namespace Go.Proofs.YtnnpfhoigmegcaaGreat
open Go.RowKit Go.Rep Go.Lim
theorem run_fieldNum (s : Bool) (a d : Option Addr) (n c k e : Nat) (W : World) : (Instr.field 41 (.agg #[.bool s, .slice a n c, .slice d k e]) 0).run Tryz.prog W = .ok (.agg #[.bool s, .slice a n c]) W := by kernel_rfl
def cmpQ (x y : Rat) : Int := if x < y then -1 else if y < x then 1 else 0
theorem cmpQ_eq (x y : Rat) : cmpZ (x.num * (y.den : Int)) (y.num * (x.den : Int)) = cmpQ x y := by
  unfold cmpZ cmpQ
  simp only [Rat.lt_iff]
set_option maxRecDepth 100000 in
set_option maxHeartbeats 1600000 in
theorem qcompare (X : Nat -> Bool) (w : World) (u v : Value) (x y : Rat) (hX : HX X w) (hu : QV (mk X w) u x) (hv : QV (mk X w) v y) : Calls Tryz.prog 180 #[u, v] w (IntOut w (cmpQ x y)) := by
  have hlx := hid hu.hq
  have hly := hid hv.hq
  obtain ⟨s1, a1, n1, c1, d1, k1, e1, rfl⟩ := hu.shape
  obtain ⟨s2, a2, n2, c2, d2, k2, e2, rfl⟩ := hv.shape
  obtain ⟨W, hW, hE, b0, b1, hz⟩ := boxes2 w #[.bool s1, .slice a1 n1 c1, .slice d1 k1 e1] #[.bool s2, .slice a2 n2 c2, .slice d2 k2 e2] 41 41
  have hXW : HX (hidB X w.heap.size 2) W := hX.boxes hz
  have hu1 := QV.mono _ _ _ _ (le_boxes (nb := 2) hE) hu
  have hv1 := QV.mono _ _ _ _ (le_boxes (nb := 2) hE) hv
  obtain ⟨b, hb⟩ : ∃ b, w.heap.size = b := ⟨_, rfl⟩
  have hbw : w.heap.size <= b := by omega
  rw [hb] at b0 b1 hz hXW hu1 hv1
  have hEd : Ext W W.drew := (ExtX.refl W).drew
  have hXd : HX (hidB X b 2) W.drew := hXW
  have hud : QV (mk (hidB X b 2) W.drew) (.agg #[.bool s1, .slice a1 n1 c1, .slice d1 k1 e1]) x := hu1
  have hvd : QV (mk (hidB X b 2) W.drew) (.agg #[.bool s2, .slice a2 n2 c2, .slice d2 k2 e2]) y := hv1
  have k00 := b0.cell 0 rfl
  have k01 := b0.cell 1 rfl
  have k02 := b0.cell 2 rfl
  have k10 := b1.cell 0 rfl
  have k11 := b1.cell 1 rfl
  have k12 := b1.cell 2 rfl
  clear hu hv
  go_enter Tryz.func180, Tryz.ntmps180
  go_upto_region 1 with (fail)
  go_cut [] from 5 to 8 (fun wx => ∃ s3 a3 n3 c3 d3 k3 e3 s4 a4 n4 c4 d4 k4 e4, Bx wx b #[.bool s3, .slice a3 n3 c3, .slice d3 k3 e3] 41 /\ Bx wx (b + 1) #[.bool s4, .slice a4 n4 c4, .slice d4 k4 e4] 41 /\ QC (mk (hidB X b 2) wx) (.agg #[.bool s3, .slice a3 n3 c3, .slice d3 k3 e3]) x /\ QC (mk (hidB X b 2) wx) (.agg #[.bool s4, .slice a4 n4 c4, .slice d4 k4 e4]) y /\ Ext w wx)
  case first =>
    go_region_with (first | (go_at_call 207; (with_reducible refine (qvalue (hidB X b 2) W.drew _ x hXd hud).mono ?_); rintro ee w5 ⟨hE5, u5, rfl, hq5⟩; obtain ⟨s5, a5, n5, c5, d5, k5, e5, rfl⟩ := hq5.shape; have bb0 := b0.ext0 (hEd.trans hE5); have bb1 := b1.ext0 (hEd.trans hE5); have e00 := bb0.cell 0 rfl; have e01 := bb0.cell 1 rfl; have e02 := bb0.cell 2 rfl; have e10 := bb1.cell 0 rfl; have e11 := bb1.cell 1 rfl; have e12 := bb1.cell 2 rfl) | (go_at_call 207; (with_reducible refine (qvalue (hidB X b 2) w5 _ y (HX.ext hXd hE5) (mkx QV.mono hvd hE5)).mono ?_); rintro ee w6 ⟨hE6, u6, rfl, hq6⟩; obtain ⟨s6, a6, n6, c6, d6, k6, e6, rfl⟩ := hq6.shape; have bb2 := bb0.ext0 hE6; have bb3 := bb1.ext0 hE6; have g00 := bb2.cell 0 rfl; have g01 := bb2.cell 1 rfl; have g02 := bb2.cell 2 rfl; have g10 := bb3.cell 0 rfl; have g11 := bb3.cell 1 rfl; have g12 := bb3.cell 2 rfl; have fr0 := bb2.frozen 0; have fr1 := bb2.frozen 1; have fr4 := bb2.frozen 2; have fr2 := bb3.frozen 0; have fr3 := bb3.frozen 1; have fr5 := bb3.frozen 2))
    all_goals
      obtain ⟨wf, hwf, q0, q1, q2, q3, q4⟩ := two_stores3 (X := X) (nb := 2) bb2 bb3 (hE.trans ((hEd.trans hE5).trans hE6)) hbw (by omega) (.bool s5) (.slice a5 n5 c5) (.slice d5 k5 e5) (.bool s6) (.slice a6 n6 c6) (.slice d6 k6 e6)
      rw [hwf]
      have hfx : QC (mk (hidB X b 2) wf) (.agg #[.bool s5, .slice a5 n5 c5, .slice d5 k5 e5]) x := QC.mono _ _ _ _ q4 (mkx QC.mono hq5 hE6)
      have hfy : QC (mk (hidB X b 2) wf) (.agg #[.bool s6, .slice a6 n6 c6, .slice d6 k6 e6]) y := QC.mono _ _ _ _ q4 hq6
      clear e00 e01 e02 e10 e11 e12 g00 g01 g02 g10 g11 g12 fr0 fr1 fr2 fr3 fr4 fr5 k00 k01 k02 k10 k11 k12 hwf
      go_wp2_with fail
      go_meet
      exact ⟨_, _, _, _, _, _, _, _, _, _, _, _, _, _, q0, q1, hfx, hfy, q3⟩
  case rest =>
    clear k00 k01 k02 k10 k11 k12 b0 b1 hu1 hv1 hud hvd hXd hEd hW
    obtain ⟨s3, a3, n3, c3, d3, k3, e3, s4, a4, n4, c4, d4, k4, e4, b0, b1, hx, hy, hE1⟩ := hcut
    have hzz : w.heap.size + 2 <= wc.heap.size := by have := b1.lt; omega
    obtain ⟨hxz, hxm, hxdn⟩ := hx.num
    obtain ⟨hyz, hym, hydn⟩ := hy.num
    have hXc : HX (hidB X b 2) wc := hX.boxes' hE1 (by have := hzz; omega) hzz
    have k00 := b0.cell 0 rfl
    have k01 := b0.cell 1 rfl
    have k02 := b0.cell 2 rfl
    have k10 := b1.cell 0 rfl
    have k11 := b1.cell 1 rfl
    have k12 := b1.cell 2 rfl
    have hEd : Ext wc wc.drew := (ExtX.refl wc).drew
    have hXd : HX (hidB X b 2) wc.drew := hXc
    have hxd : QC (mk (hidB X b 2) wc.drew) (.agg #[.bool s3, .slice a3 n3 c3, .slice d3 k3 e3]) x := hx
    have hyd : QC (mk (hidB X b 2) wc.drew) (.agg #[.bool s4, .slice a4 n4 c4, .slice d4 k4 e4]) y := hy
    have hxzd : ZC (mk (hidB X b 2) wc.drew) (.agg #[.bool s3, .slice a3 n3 c3]) x.num := hxz
    have hyzd : ZC (mk (hidB X b 2) wc.drew) (.agg #[.bool s4, .slice a4 n4 c4]) y.num := hyz
    have bxn : lg x.num.natAbs <= 549755813888 := Nat.le_trans (Nat.le_trans (hq_num x) hlx.out) (by omega)
    have byn : lg y.num.natAbs <= 549755813888 := Nat.le_trans (Nat.le_trans (hq_num y) hly.out) (by omega)
    have bxd : lg x.den <= 549755813888 := Nat.le_trans (Nat.le_trans (hq_den x) hlx.out) (by omega)
    have byd : lg y.den <= 549755813888 := Nat.le_trans (Nat.le_trans (hq_den y) hly.out) (by omega)
    have bp1 : lg (x.num * (y.den : Int)).natAbs <= 274877906944 := by rw [Int.natAbs_mul, Int.natAbs_natCast]; have := lg_mul x.num.natAbs y.den; have := hq_num x; have := hq_den y; have := hlx.out; have := hly.out; omega
    have bp2 : lg (y.num * (x.den : Int)).natAbs <= 274877906944 := by rw [Int.natAbs_mul, Int.natAbs_natCast]; have := lg_mul y.num.natAbs x.den; have := hq_num y; have := hq_den x; have := hlx.out; have := hly.out; omega
    have bdd : lg (x.den * y.den) <= 274877906944 := by have := lg_mul x.den y.den; have := hq_den x; have := hq_den y; have := hlx.out; have := hly.out; omega
    have bnn : lg (x.num * y.num).natAbs <= 274877906944 := by rw [Int.natAbs_mul]; have := lg_mul x.num.natAbs y.num.natAbs; have := hq_num x; have := hq_num y; have := hlx.out; have := hly.out; omega
    have bd0 : 0 < x.den * y.den := Nat.mul_pos x.den_pos y.den_pos
    have hB := hid (And.intro b0 b1)
    have hS : Hid (∀ W', Ext wc.drew W' -> W'.cell? ⟨b, 0, none⟩ = some (.bool s3) /\ W'.cell? ⟨b, 1, none⟩ = some (.slice a3 n3 c3) /\ W'.cell? ⟨b, 2, none⟩ = some (.slice d3 k3 e3) /\ W'.cell? ⟨b + 1, 0, none⟩ = some (.bool s4) /\ W'.cell? ⟨b + 1, 1, none⟩ = some (.slice a4 n4 c4) /\ W'.cell? ⟨b + 1, 2, none⟩ = some (.slice d4 k4 e4)) :=
      hid fun W' h => ⟨(b0.ext0 (hEd.trans h)).cell 0 rfl, (b0.ext0 (hEd.trans h)).cell 1 rfl, (b0.ext0 (hEd.trans h)).cell 2 rfl, (b1.ext0 (hEd.trans h)).cell 0 rfl, (b1.ext0 (hEd.trans h)).cell 1 rfl, (b1.ext0 (hEd.trans h)).cell 2 rfl⟩
    have hfin : Hid (cmpZ (x.num * (y.den : Int)) (y.num * (x.den : Int)) = cmpQ x y) := hid (cmpQ_eq x y)
    go_wp2_with fail
    go_region_held3 (fun w' => w'.cell? ⟨b, 0, none⟩ = some (.bool s3) /\ w'.cell? ⟨b, 1, none⟩ = some (.slice a3 n3 c3) /\ w'.cell? ⟨b, 2, none⟩ = some (.slice d3 k3 e3) /\ w'.cell? ⟨b + 1, 0, none⟩ = some (.bool s4) /\ w'.cell? ⟨b + 1, 1, none⟩ = some (.slice a4 n4 c4) /\ w'.cell? ⟨b + 1, 2, none⟩ = some (.slice d4 k4 e4))
      (first | exact hS.out _ t1 | exact hS.out _ t2 | exact hS.out _ t3 | exact hS.out _ t4 | exact hS.out _ t5 | go_keep)
      (first | (go_at_call 235; (with_reducible refine (qden (hidB X b 2) wc.drew _ y hXd hyd).mono ?_); rintro ee w5 ⟨t1, u5, rfl, hu5⟩; have hX5 := HX.ext hXd t1; have hx5 := mkx ZC.mono hxzd t1) | (go_at_call 260; (with_reducible refine (qtimes (hidB X b 2) w5 _ _ x.num y.den hX5 hx5 hu5 bxn byd).mono ?_); rintro ee w6 ⟨hE6, u6, rfl, hu6⟩; have t2 := t1.trans hE6; have hX6 := HX.ext hXd t2; have hx6 := mkx QC.mono hxd t2) | (go_at_call 235; (with_reducible refine (qden (hidB X b 2) w6 _ x hX6 hx6).mono ?_); rintro ee w7 ⟨hE7, u7, rfl, hu7⟩; have t3 := t2.trans hE7; have hX7 := HX.ext hXd t3; have hy7 := mkx ZC.mono hyzd t3) | (go_at_call 260; (with_reducible refine (qtimes (hidB X b 2) w7 _ _ y.num x.den hX7 hy7 hu7 byn bxd).mono ?_); rintro ee w8 ⟨hE8, u8, rfl, hu8⟩; have t4 := t3.trans hE8; have hX8 := HX.ext hXd t4; have hz6 := (mkx ZC.mono hu6 (hE7.trans hE8)).zv (Nat.le_trans bp1 (by decide)); have hz8 := hu8.zv (Nat.le_trans bp2 (by decide))) | (go_at_call 259; (with_reducible refine (icompare (hidB X b 2) w8 _ _ _ _ hX8 hz6 hz8).mono ?_); rintro ee w9 ⟨hE9, rfl⟩; have t5 := t4.trans hE9))
    have hEf : Ext w _ := hE1.trans (hEd.trans t5)
    clear k00 k01 k02 k10 k11 k12 hS hB
    go_wp2_with fail
    go_ret
    exact ⟨hEf, ret_int hfin.out⟩
set_option maxRecDepth 100000 in
theorem qsign (X : Nat -> Bool) (w : World) (u : Value) (x : Rat) (hX : HX X w) (hu : QV (mk X w) u x) : Calls Tryz.prog 125 #[u] w (IntOut w x.num.sign) := by
  have hlx := hid hu.hq
  obtain ⟨s1, a1, n1, c1, d1, k1, e1, rfl⟩ := hu.shape
  obtain ⟨W, hW, hE, b0, hz⟩ := boxes1 w #[.bool s1, .slice a1 n1 c1, .slice d1 k1 e1] 41
  have hXW : HX X W := hX.ext hE
  have hu1 := mkx QV.mono hu hE
  obtain ⟨b, hb⟩ : ∃ b, w.heap.size = b := ⟨_, rfl⟩
  rw [hb] at b0 hz
  have k00 := b0.cell 0 rfl
  have k01 := b0.cell 1 rfl
  have k02 := b0.cell 2 rfl
  have hfl := run_fieldNum
  clear hu
  go_enter Tryz.func125, Tryz.ntmps125
  go_wp2_with fail
  refine (qvalue X W _ x hXW hu1).mono ?_
  rintro ee w5 ⟨hE5, u5, rfl, hq5⟩
  obtain ⟨s5, a5, n5, c5, d5, k5, e5, rfl⟩ := hq5.shape
  have hz5 := hq5.num.1.zv (Nat.le_trans (Nat.le_trans (hq_num x) hlx.out) (by omega))
  clear k00 k01 k02
  go_wp2_with fail
  refine (isign X w5 _ _ (hXW.ext hE5) hz5).mono ?_
  rintro ee w6 ⟨hE6, rfl⟩
  go_wp2_with fail
  go_ret
  exact ⟨hE.trans (hE5.trans hE6), rfl⟩
end Go.Proofs.YtnnpfhoigmegcaaGreat
namespace Go.Proofs.YtnnpfhoigmegcaaGreat
open Go.RowKit Go.Rep Go.Lim
theorem dn_neg (x : Rat) : dn (-x) = dn x := by unfold dn; rw [Rat.neg_den]
set_option maxRecDepth 100000 in
theorem qneg (X : Nat -> Bool) (w : World) (u : Value) (x : Rat) (hX : HX X w) (hu : QV (mk X w) u x) : Calls Tryz.prog 237 #[u] w (ROut X w QC (-x)) := by
  have hlx := hid hu.hq
  obtain ⟨s1, a1, n1, c1, d1, k1, e1, rfl⟩ := hu.shape
  obtain ⟨W, hW, hE, b0, b1, hz⟩ := boxes2 w #[.bool s1, .slice a1 n1 c1, .slice d1 k1 e1] #[.bool false, .slice none 0 0, .slice none 0 0] 41 41
  have hXW : HX (hidB X w.heap.size 2) W := hX.boxes hz
  have hu1 := QV.mono _ _ _ _ (le_boxes (nb := 2) hE) hu
  obtain ⟨b, hb⟩ : ∃ b, w.heap.size = b := ⟨_, rfl⟩
  have hbw : w.heap.size <= b := by omega
  rw [hb] at b0 b1 hz hXW hu1
  have k00 := b0.cell 0 rfl
  have k01 := b0.cell 1 rfl
  have k02 := b0.cell 2 rfl
  clear hu
  go_enter Tryz.func237, Tryz.ntmps237
  go_wp2_with fail
  refine (qvalue (hidB X b 2) W _ x hXW hu1).mono ?_
  rintro e w5 ⟨hE5, u5, rfl, hq5⟩
  obtain ⟨s5, a5, n5, c5, d5, k5, e5, rfl⟩ := hq5.shape
  have hX5 := hXW.ext hE5
  have bb0 := b0.ext0 hE5
  have bb1 := b1.ext0 hE5
  clear k00 k01 k02
  go_upto_region 2 with ((with_reducible show wpList _ _ _ (⟨_, .store _ _ _, _, _, _, _⟩ :: _) _ _); refine st_storeBox stRat rfl rfl bb0 rfl rfl (one3 _ _ _ _ _ _ _) ?_; intro w7 r1 r2; have k00 := r1.cell 0 rfl; have k01 := r1.cell 1 rfl; have k02 := r1.cell 2 rfl)
  have hX7 := hX5.ext r2
  have bb3 := bb1.ext r2 (ob_other (by omega))
  have hx7 := QC.mono _ _ _ _ (le_store (X := X) (lo := b) (nb := 2) r2 (by omega) (by omega)) hq5
  have hE7 : Ext w w7 := ExtX.box (hE.trans hE5) r2 (by omega)
  obtain ⟨hxz, hxm, hxdn⟩ := hx7.num
  have hEd : Ext w7 w7.drew := (ExtX.refl w7).drew
  have hXd : HX (hidB X b 2) w7.drew := hX7
  have hxzd : ZC (mk (hidB X b 2) w7.drew) (.agg #[.bool s5, .slice a5 n5 c5]) x.num := hxz
  have hxdd : NC (mk (hidB X b 2) w7.drew) (.slice d5 k5 e5) (dn x) := hxdn
  have bxn : lg x.num.natAbs <= 549755813888 := Nat.le_trans (Nat.le_trans (hq_num x) hlx.out) (by omega)
  have bxd : lg (dn x) <= 549755813888 := Nat.le_trans (Nat.le_trans (dn_le x) hlx.out) (by omega)
  have hxv := hxzd.zv bxn
  have hS : Hid (∀ W', Ext w7.drew W' -> W'.cell? ⟨b, 0, none⟩ = some (.bool s5) /\ W'.cell? ⟨b, 1, none⟩ = some (.slice a5 n5 c5) /\ W'.cell? ⟨b, 2, none⟩ = some (.slice d5 k5 e5)) :=
    hid fun W' h => ⟨(r1.ext0 (hEd.trans h)).cell 0 rfl, (r1.ext0 (hEd.trans h)).cell 1 rfl, (r1.ext0 (hEd.trans h)).cell 2 rfl⟩
  go_region_held3 (fun w' => w'.cell? ⟨b, 0, none⟩ = some (.bool s5) /\ w'.cell? ⟨b, 1, none⟩ = some (.slice a5 n5 c5) /\ w'.cell? ⟨b, 2, none⟩ = some (.slice d5 k5 e5))
    (first | exact hS.out _ t1 | exact hS.out _ t2 | exact ⟨((r1.ext0 (hEd.trans t2)).ext (bb2.set3 _ _ _).2 (ob_other (by omega))).cell 0 rfl, ((r1.ext0 (hEd.trans t2)).ext (bb2.set3 _ _ _).2 (ob_other (by omega))).cell 1 rfl, ((r1.ext0 (hEd.trans t2)).ext (bb2.set3 _ _ _).2 (ob_other (by omega))).cell 2 rfl⟩ | go_keep)
    (first | (go_at_call 296; (with_reducible refine (ineg (hidB X b 2) w7.drew _ _ hXd hxv).mono ?_); rintro ee w8 ⟨t1, u8, rfl, s8, a8, c8, l8, rfl, h81, h82, h83⟩; have hX8 := HX.ext hXd t1; have hm8 := (mkx NC.mono hxdd t1).nv (Nat.le_trans bxd (by decide)); have hz8 := NC.nv (NC.zero (mk (hidB X b 2) w8)) (by decide)) | (go_at_call 166; (with_reducible refine (nadd hX8 hm8 hz8).mono ?_); rintro ee w9 ⟨hE9, u9, rfl, a9, c9, l9, rfl, h91, h92, h93⟩; have t2 := t1.trans hE9; have hh8 := Sl.mono (NatIn.mono _) (mk_ext hE9) h83; have bb2 := bb3.ext0 (hEd.trans t2); have g0 := bb2.cell 0 rfl; have g1 := bb2.cell 1 rfl; have g2 := bb2.cell 2 rfl; have f0 := bb2.frozen 0; have f1 := bb2.frozen 1; have f2 := bb2.frozen 2))
  obtain ⟨q1, q2⟩ := bb2.set3 (.bool s8) (.slice a8 l8.length c8) (.slice a9 l9.length c9)
  have hz : ZC (mk (hidB X b 2) w9) (.agg #[.bool s8, .slice a8 l8.length c8]) (-x).num := ⟨s8, a8, c8, l8, rfl, h81, by rw [Rat.neg_num]; exact h82, hh8⟩
  have hd : NC (mk (hidB X b 2) w9) (.slice a9 l9.length c9) (dn (-x)) := ⟨a9, c9, l9, rfl, h91, by rw [dn_neg]; exact h92, h93⟩
  have h7 := QC.mono _ _ _ _ le_unbox (QC.mono _ _ _ _ (le_store q2 (by omega) (by omega)) (QC.of hz hd))
  have hEf : Ext w _ := ExtX.box (hE7.trans (hEd.trans t2)) q2 (by omega)
  clear g0 g1 g2 f0 f1 f2 k00 k01 k02 hS
  go_wp2_with fail
  exact bodyPost_ret (results_box rfl rfl stRat q1 rfl) rfl ⟨hEf, _, rfl, h7⟩
set_option maxRecDepth 100000 in
theorem qsub (X : Nat -> Bool) (w : World) (u v : Value) (x y : Rat) (hX : HX X w) (hu : QV (mk X w) u x) (hv : QV (mk X w) v y) : Calls Tryz.prog 153 #[u, v] w (ROut X w QC (x - y)) := by
  have hlx := hid hu.hq
  have hly := hid hv.hq
  obtain ⟨s1, a1, n1, c1, d1, k1, e1, rfl⟩ := hu.shape
  obtain ⟨s2, a2, n2, c2, d2, k2, e2, rfl⟩ := hv.shape
  obtain ⟨W, hW, hE, b0, b1, b2, hz⟩ := boxes3 w #[.bool s1, .slice a1 n1 c1, .slice d1 k1 e1] #[.bool s2, .slice a2 n2 c2, .slice d2 k2 e2] #[.bool false, .slice none 0 0, .slice none 0 0] 41 41 41
  have hXW : HX (hidB X w.heap.size 3) W := hX.boxes hz
  have hu1 := QV.mono _ _ _ _ (le_boxes (nb := 3) hE) hu
  have hv1 := QV.mono _ _ _ _ (le_boxes (nb := 3) hE) hv
  obtain ⟨b, hb⟩ : ∃ b, w.heap.size = b := ⟨_, rfl⟩
  have hbw : w.heap.size <= b := by omega
  rw [hb] at b0 b1 b2 hz hXW hu1 hv1
  have hEd : Ext W W.drew := (ExtX.refl W).drew
  have hXd : HX (hidB X b 3) W.drew := hXW
  have hud : QV (mk (hidB X b 3) W.drew) (.agg #[.bool s1, .slice a1 n1 c1, .slice d1 k1 e1]) x := hu1
  have hvd : QV (mk (hidB X b 3) W.drew) (.agg #[.bool s2, .slice a2 n2 c2, .slice d2 k2 e2]) y := hv1
  have k00 := b0.cell 0 rfl
  have k01 := b0.cell 1 rfl
  have k02 := b0.cell 2 rfl
  have k10 := b1.cell 0 rfl
  have k11 := b1.cell 1 rfl
  have k12 := b1.cell 2 rfl
  clear hu hv
  have hB := hid (And.intro b0 b1)
  have hS : Hid (∀ W', Ext W.drew W' -> W'.cell? ⟨b, 0, none⟩ = some (.bool s1) /\ W'.cell? ⟨b, 1, none⟩ = some (.slice a1 n1 c1) /\ W'.cell? ⟨b, 2, none⟩ = some (.slice d1 k1 e1) /\ W'.cell? ⟨b + 1, 0, none⟩ = some (.bool s2) /\ W'.cell? ⟨b + 1, 1, none⟩ = some (.slice a2 n2 c2) /\ W'.cell? ⟨b + 1, 2, none⟩ = some (.slice d2 k2 e2)) :=
    hid fun W' h => ⟨(b0.ext0 (hEd.trans h)).cell 0 rfl, (b0.ext0 (hEd.trans h)).cell 1 rfl, (b0.ext0 (hEd.trans h)).cell 2 rfl, (b1.ext0 (hEd.trans h)).cell 0 rfl, (b1.ext0 (hEd.trans h)).cell 1 rfl, (b1.ext0 (hEd.trans h)).cell 2 rfl⟩
  have hny := hid (show hq (-y) <= 68719476736 by rw [hq_neg]; exact hly.out)
  have hsum : Hid (x + -y = x - y) := hid (Rat.sub_eq_add_neg x y).symm
  go_enter Tryz.func153, Tryz.ntmps153
  go_upto_region 1 with (fail)
  go_region_held3 (fun w' => w'.cell? ⟨b, 0, none⟩ = some (.bool s1) /\ w'.cell? ⟨b, 1, none⟩ = some (.slice a1 n1 c1) /\ w'.cell? ⟨b, 2, none⟩ = some (.slice d1 k1 e1) /\ w'.cell? ⟨b + 1, 0, none⟩ = some (.bool s2) /\ w'.cell? ⟨b + 1, 1, none⟩ = some (.slice a2 n2 c2) /\ w'.cell? ⟨b + 1, 2, none⟩ = some (.slice d2 k2 e2))
    (first | exact hS.out _ t1 | exact hS.out _ t2 | exact ⟨((hB.out.1.ext0 (hEd.trans t2)).ext (bb2.set3 _ _ _).2 (ob_other (by omega))).cell 0 rfl, ((hB.out.1.ext0 (hEd.trans t2)).ext (bb2.set3 _ _ _).2 (ob_other (by omega))).cell 1 rfl, ((hB.out.1.ext0 (hEd.trans t2)).ext (bb2.set3 _ _ _).2 (ob_other (by omega))).cell 2 rfl, ((hB.out.2.ext0 (hEd.trans t2)).ext (bb2.set3 _ _ _).2 (ob_other (by omega))).cell 0 rfl, ((hB.out.2.ext0 (hEd.trans t2)).ext (bb2.set3 _ _ _).2 (ob_other (by omega))).cell 1 rfl, ((hB.out.2.ext0 (hEd.trans t2)).ext (bb2.set3 _ _ _).2 (ob_other (by omega))).cell 2 rfl⟩ | go_keep)
    (first | (go_at_call 237; (with_reducible refine (qneg (hidB X b 3) W.drew _ y hXd hvd).mono ?_); rintro ee w5 ⟨t1, u5, rfl, hu5⟩; have hX5 := HX.ext hXd t1; have hx5 := mkx QV.mono hud t1) | (go_at_call 182; (with_reducible refine (qadd (hidB X b 3) w5 _ _ x (-y) hX5 hx5 (hu5.qv hny.out)).mono ?_); rintro ee w6 ⟨hE6, u6, rfl, hu6⟩; obtain ⟨s6, a6, n6, c6, d6, k6, e6, rfl⟩ := hu6.shape; have t2 := t1.trans hE6; have bb2 := b2.ext0 (hEd.trans t2); have g0 := bb2.cell 0 rfl; have g1 := bb2.cell 1 rfl; have g2 := bb2.cell 2 rfl; have f0 := bb2.frozen 0; have f1 := bb2.frozen 1; have f2 := bb2.frozen 2))
  rw [hsum.out] at hu6
  obtain ⟨q1, q2⟩ := bb2.set3 (.bool s6) (.slice a6 n6 c6) (.slice d6 k6 e6)
  have h7 := QC.mono _ _ _ _ le_unbox (QC.mono _ _ _ _ (le_store q2 (by omega) (by omega)) hu6)
  have hEf : Ext w _ := ExtX.box (hE.trans (hEd.trans t2)) q2 (by omega)
  clear g0 g1 g2 f0 f1 f2 k00 k01 k02 k10 k11 k12 hS hB
  go_wp2_with fail
  exact bodyPost_ret (results_box rfl rfl stRat q1 rfl) rfl ⟨hEf, _, rfl, h7⟩
end Go.Proofs.YtnnpfhoigmegcaaGreat
namespace Go.Proofs.YtnnpfhoigmegcaaGreat
open Go.RowKit Go.Rep Go.Lim
def e5 (b : Bool) : Int := if b then 5 else 0
def QEOut (X : Nat -> Bool) (w : World) (q : Rat) (c : Int) (e : Ending) (w' : World) : Prop := Ext w w' /\ ∃ u, e = .returned (.tuple #[u, .int .i64 c]) /\ QC (mk X w') u q
theorem mk_pos (x y : Int) (h : 0 < y) : mkRat x y.natAbs = (x : Rat) / (y : Rat) := by
  rw [Rat.mkRat_eq_div, <- Rat.intCast_natCast, Int.natAbs_of_nonneg (by omega)]
theorem mk_neg (x y : Int) (h : y < 0) : mkRat (-x) y.natAbs = (x : Rat) / (y : Rat) := by
  rw [Rat.mkRat_eq_div, <- Rat.intCast_natCast, Int.ofNat_natAbs_of_nonpos (by omega), Rat.intCast_neg, Rat.intCast_neg, Rat.div_def, Rat.div_def, show (-(y : Rat))⁻¹ = -(y : Rat)⁻¹ by grind]
  grind
theorem _root_.Go.Rep.ZC.mag {h : Mem} {s : Bool} {ao : Option Addr} {n c : Nat} {y : Int} (hu : ZC h (.agg #[.bool s, .slice ao n c]) y) : NC h (.slice ao n c) y.natAbs := by
  obtain ⟨_, _, _, l, heq, h1, h2, h3⟩ := hu
  simp only [Value.agg.injEq, Array.mk.injEq, List.cons.injEq, Value.bool.injEq, Value.slice.injEq, and_true] at heq
  obtain ⟨rfl, rfl, rfl, rfl⟩ := heq
  exact ⟨_, _, _, rfl, h1, h2.2, h3⟩
theorem _root_.Go.Rep.ZC.shape {h : Mem} {u : Value} {q : Int} (hu : ZC h u q) : ∃ s ao n c, u = .agg #[.bool s, .slice ao n c] := by
  obtain ⟨s, ao, c, m, rfl, _⟩ := hu; exact ⟨_, _, _, _, rfl⟩
set_option maxRecDepth 100000 in
theorem qmake (X : Nat -> Bool) (w : World) (u v : Value) (x y : Int) (hX : HX X w) (hu : ZC (mk X w) u x) (hv : ZC (mk X w) v y) (hx : lg x.natAbs <= 549755813888) (hy : lg y.natAbs <= 549755813888) : Calls Tryz.prog 295 #[u, v] w (QEOut X w ((x : Rat) / (y : Rat)) (e5 (decide (y = 0)))) := by
  have hlx := hid hx
  have hly := hid hy
  obtain ⟨s1, a1, n1, c1, rfl⟩ := hu.shape
  obtain ⟨s2, a2, n2, c2, rfl⟩ := hv.shape
  obtain ⟨W, hW, hE, b0, b1, b2, hz⟩ := boxes3 w #[.bool s1, .slice a1 n1 c1] #[.bool s2, .slice a2 n2 c2] #[.bool false, .slice none 0 0, .slice none 0 0] 39 39 41
  have hXW : HX (hidB X w.heap.size 3) W := hX.boxes hz
  have hu1 := ZC.mono _ _ _ _ (le_boxes (nb := 3) hE) hu
  have hv1 := ZC.mono _ _ _ _ (le_boxes (nb := 3) hE) hv
  obtain ⟨b, hb⟩ : ∃ b, w.heap.size = b := ⟨_, rfl⟩
  have hbw : w.heap.size <= b := by omega
  rw [hb] at b0 b1 b2 hz hXW hu1 hv1
  have hvz := hv1.zv hy
  have huz := hu1.zv hx
  have k00 := b0.cell 0 rfl
  have k01 := b0.cell 1 rfl
  have k10 := b1.cell 0 rfl
  have k11 := b1.cell 1 rfl
  have h0 : y = 0 \/ 0 < y \/ y < 0 := by omega
  obtain ⟨ec, hec'⟩ : ∃ ec : Int, e5 (decide (y = 0)) = ec := ⟨_, rfl⟩
  obtain ⟨q, hq'⟩ : ∃ q : Rat, (x : Rat) / (y : Rat) = q := ⟨_, rfl⟩
  rw [hec', hq']
  clear hu hv hx hy
  go_enter Tryz.func295, Tryz.ntmps295
  go_wp2_with fail
  refine (isign (hidB X b 3) W _ _ hXW hvz).mono ?_
  rintro e w5 ⟨hE5, rfl⟩
  have bb0 := b0.ext0 hE5
  have bb1 := b1.ext0 hE5
  have bb2 := b2.ext0 hE5
  have j00 := bb0.cell 0 rfl
  have j01 := bb0.cell 1 rfl
  have j10 := bb1.cell 0 rfl
  have j11 := bb1.cell 1 rfl
  clear k00 k01 k10 k11
  rcases h0 with h0 | h0 | h0
  · have hec : Hid ((5 : Int) = ec) := hid (by rw [<- hec', decide_eq_true h0]; rfl)
    have hres : Hid ((0 : Rat) = q) := hid (by rw [<- hq', h0, Rat.intCast_zero, Rat.div_def, Rat.inv_zero, Rat.mul_zero])
    have hI : (y.sign == 0) = true := by rw [h0]; rfl
    generalize y.sign = sgy at *
    clear h0 hec' hq'
    go_wp2_with ((with_reducible show wpList _ _ _ (⟨_, .store _ _ _, _, _, _, _⟩ :: _) _ _); refine st_storeBox stRat rfl rfl bb2 rfl rfl (one3 _ _ _ _ _ _ _) ?_; intro w7 r1 r2)
    exact bodyPost_ret (results_box2 rfl rfl stRat r1 rfl) rfl ⟨ExtX.box (hE.trans hE5) r2 (by omega), _, by rw [<- hec.out]; rfl, by rw [<- hres.out]; exact QC.zero _⟩
  · have hec : Hid (ec = (0 : Int)) := hid (by rw [<- hec', decide_eq_false (by omega)]; rfl)
    have hres : Hid (mkRat x y.natAbs = q) := hid (by rw [<- hq']; exact mk_pos x y h0)
    have hI : (y.sign == 0) = false := by rw [Int.sign_eq_one_of_pos h0]; rfl
    have hI2 : decide (y.sign < 0) = false := by rw [Int.sign_eq_one_of_pos h0]; rfl
    have hy0 : Hid (0 < y.natAbs) := hid (by omega)
    have hvz5 := mkx ZV.mono hvz hE5
    have hXs5 := hXW.ext hE5
    clear h0 hec' hq'
    go_wp2_with fail
    refine (isign (hidB X b 3) w5 _ _ hXs5 hvz5).mono ?_
    rintro e ws ⟨hE6, rfl⟩
    generalize y.sign = sgy at *
    have bz0 := bb0.ext0 hE6
    have bz1 := bb1.ext0 hE6
    have bz2 := bb2.ext0 hE6
    have hXs := hXs5.ext hE6
    have hEs := hE.trans (hE5.trans hE6)
    have hzn := mkx ZC.mono (mkx ZC.mono hu1 hE5) hE6
    have hzd := (mkx ZC.mono (mkx ZC.mono hv1 hE5) hE6).mag
    clear j00 j01 j10 j11
    generalize hsz : s1 = sz at *
    generalize haz : a1 = az at *
    generalize hnz : n1 = nz at *
    generalize hcz : c1 = cz at *
    generalize hxz : x = z at *
    have bzn := hlx
    have hz0 : Hid (z + 0 = z) := hid (by omega)
    go_upto_region 5 with (fail)
    have hEd : Ext ws ws.drew := (ExtX.refl ws).drew
    have hXd : HX (hidB X b 3) ws.drew := hXs
    have hxzd : ZC (mk (hidB X b 3) ws.drew) (.agg #[.bool sz, .slice az nz cz]) z := hzn
    have hydd : NC (mk (hidB X b 3) ws.drew) (.slice a2 n2 c2) y.natAbs := hzd
    have hxv := hxzd.zv bzn.out
    have h00 := ZC.zv (ZC.zero (mk (hidB X b 3) ws.drew)) (by decide)
    have hB := hid (And.intro bz0 bz1)
    have hS : Hid (∀ W', Ext ws.drew W' -> W'.cell? ⟨b, 0, none⟩ = some (.bool sz) /\ W'.cell? ⟨b, 1, none⟩ = some (.slice az nz cz) /\ W'.cell? ⟨b + 1, 0, none⟩ = some (.bool s2) /\ W'.cell? ⟨b + 1, 1, none⟩ = some (.slice a2 n2 c2)) :=
      hid fun W' h => ⟨(bz0.ext0 (hEd.trans h)).cell 0 rfl, (bz0.ext0 (hEd.trans h)).cell 1 rfl, (bz1.ext0 (hEd.trans h)).cell 0 rfl, (bz1.ext0 (hEd.trans h)).cell 1 rfl⟩
    have k00 := bz0.cell 0 rfl
    have k01 := bz0.cell 1 rfl
    have k10 := bz1.cell 0 rfl
    have k11 := bz1.cell 1 rfl
    go_region_held3 (fun w' => w'.cell? ⟨b, 0, none⟩ = some (.bool sz) /\ w'.cell? ⟨b, 1, none⟩ = some (.slice az nz cz) /\ w'.cell? ⟨b + 1, 0, none⟩ = some (.bool s2) /\ w'.cell? ⟨b + 1, 1, none⟩ = some (.slice a2 n2 c2))
      (first | exact hS.out _ t1 | exact hS.out _ t2 | exact ⟨((hB.out.1.ext0 (hEd.trans t2)).ext (bb2.set3 _ _ _).2 (ob_other (by omega))).cell 0 rfl, ((hB.out.1.ext0 (hEd.trans t2)).ext (bb2.set3 _ _ _).2 (ob_other (by omega))).cell 1 rfl, ((hB.out.2.ext0 (hEd.trans t2)).ext (bb2.set3 _ _ _).2 (ob_other (by omega))).cell 0 rfl, ((hB.out.2.ext0 (hEd.trans t2)).ext (bb2.set3 _ _ _).2 (ob_other (by omega))).cell 1 rfl⟩ | go_keep)
      (first | (go_at_call 264; (with_reducible refine (iadd (hidB X b 3) ws.drew _ _ _ _ hXd hxv h00).mono ?_); rintro ee w8 ⟨t1, u8, rfl, hu8⟩; rw [hz0.out] at hu8; have hX8 := HX.ext hXd t1; have hm8 := mkx NC.mono hydd t1) | (go_at_call 233; (with_reducible refine (qlowest (hidB X b 3) w8 _ _ z y.natAbs hX8 hu8 hm8 bzn.out hly.out hy0.out).mono ?_); rintro ee w9 ⟨hE9, u9, rfl, hu9⟩; obtain ⟨s9, a9, n9, c9, d9, k9, e9, rfl⟩ := hu9.shape; have t2 := t1.trans hE9; have bb2 := bz2.ext0 (hEd.trans t2); have g0 := bb2.cell 0 rfl; have g1 := bb2.cell 1 rfl; have g2 := bb2.cell 2 rfl; have f0 := bb2.frozen 0; have f1 := bb2.frozen 1; have f2 := bb2.frozen 2))
    rw [hres.out] at hu9
    obtain ⟨q1, q2⟩ := bb2.set3 (.bool s9) (.slice a9 n9 c9) (.slice d9 k9 e9)
    have h7 := QC.mono _ _ _ _ le_unbox (QC.mono _ _ _ _ (le_store q2 (by omega) (by omega)) hu9)
    have hEf : Ext w _ := ExtX.box (hEs.trans (hEd.trans t2)) q2 (by omega)
    clear g0 g1 g2 f0 f1 f2 k00 k01 k10 k11 hS hB
    go_wp2_with fail
    exact bodyPost_ret (results_box2 rfl rfl stRat q1 rfl) rfl ⟨hEf, _, by rw [hec.out]; rfl, h7⟩
  · have hec : Hid (ec = (0 : Int)) := hid (by rw [<- hec', decide_eq_false (by omega)]; rfl)
    have hres : Hid (mkRat (-x) y.natAbs = q) := hid (by rw [<- hq']; exact mk_neg x y h0)
    have hI : (y.sign == 0) = false := by rw [Int.sign_eq_neg_one_of_neg h0]; rfl
    have hI2 : decide (y.sign < 0) = true := by rw [Int.sign_eq_neg_one_of_neg h0]; rfl
    have hy0 : Hid (0 < y.natAbs) := hid (by omega)
    have hvz5 := mkx ZV.mono hvz hE5
    have hXs5 := hXW.ext hE5
    clear h0 hec' hq'
    go_wp2_with fail
    refine (isign (hidB X b 3) w5 _ _ hXs5 hvz5).mono ?_
    rintro e w6 ⟨hE6, rfl⟩
    generalize y.sign = sgy at *
    have bz0 := bb0.ext0 hE6
    have bz1 := bb1.ext0 hE6
    have bz2 := bb2.ext0 hE6
    have hXs6 := hXs5.ext hE6
    have hzn6 := mkx ZV.mono (mkx ZV.mono huz hE5) hE6
    clear j00 j01 j10 j11
    have k00 := bz0.cell 0 rfl
    have k01 := bz0.cell 1 rfl
    have k10 := bz1.cell 0 rfl
    have k11 := bz1.cell 1 rfl
    go_wp2_with fail
    refine (ineg (hidB X b 3) w6 _ _ hXs6 hzn6).mono ?_
    rintro e w7 ⟨hE7, u7, rfl, hu7⟩
    obtain ⟨sz, az, nz, cz, rfl⟩ := hu7.shape
    have bn0 := bz0.ext0 hE7
    have bn1 := bz1.ext0 hE7
    have bn2 := bz2.ext0 hE7
    have hXs7 := hXs6.ext hE7
    have hEs7 := hE.trans (hE5.trans (hE6.trans hE7))
    have hzd7 := (mkx ZC.mono (mkx ZC.mono (mkx ZC.mono hv1 hE5) hE6) hE7).mag
    have hbz : Hid (lg (-x).natAbs <= 549755813888) := hid (by rw [Int.natAbs_neg]; exact hlx.out)
    clear k00 k01 k10 k11 bz0 bz1 bz2
    generalize hxz : -x = z at *
    go_upto_region 5 with ((with_reducible show wpList _ _ _ (⟨_, .store _ _ _, _, _, _, _⟩ :: _) _ _); refine st_storeBox stInt rfl rfl bn0 rfl rfl (one2 _ _ _ _) ?_; intro ws bz0 r2)
    have bz1 := bn1.ext r2 (ob_other (by omega))
    have bz2 := bn2.ext r2 (ob_other (by omega))
    have hXs := hXs7.ext r2
    have hzn := ZC.mono _ _ _ _ (le_store (X := X) (lo := b) (nb := 3) r2 (by omega) (by omega)) hu7
    have hzd := NC.mono _ _ _ _ (le_store (X := X) (lo := b) (nb := 3) r2 (by omega) (by omega)) hzd7
    have hEs : Ext w ws := ExtX.box hEs7 r2 (by omega)
    have bzn := hbz
    have hz0 : Hid (z + 0 = z) := hid (by omega)
    have hEd : Ext ws ws.drew := (ExtX.refl ws).drew
    have hXd : HX (hidB X b 3) ws.drew := hXs
    have hxzd : ZC (mk (hidB X b 3) ws.drew) (.agg #[.bool sz, .slice az nz cz]) z := hzn
    have hydd : NC (mk (hidB X b 3) ws.drew) (.slice a2 n2 c2) y.natAbs := hzd
    have hxv := hxzd.zv bzn.out
    have h00 := ZC.zv (ZC.zero (mk (hidB X b 3) ws.drew)) (by decide)
    have hB := hid (And.intro bz0 bz1)
    have hS : Hid (∀ W', Ext ws.drew W' -> W'.cell? ⟨b, 0, none⟩ = some (.bool sz) /\ W'.cell? ⟨b, 1, none⟩ = some (.slice az nz cz) /\ W'.cell? ⟨b + 1, 0, none⟩ = some (.bool s2) /\ W'.cell? ⟨b + 1, 1, none⟩ = some (.slice a2 n2 c2)) :=
      hid fun W' h => ⟨(bz0.ext0 (hEd.trans h)).cell 0 rfl, (bz0.ext0 (hEd.trans h)).cell 1 rfl, (bz1.ext0 (hEd.trans h)).cell 0 rfl, (bz1.ext0 (hEd.trans h)).cell 1 rfl⟩
    have k00 := bz0.cell 0 rfl
    have k01 := bz0.cell 1 rfl
    have k10 := bz1.cell 0 rfl
    have k11 := bz1.cell 1 rfl
    go_region_held3 (fun w' => w'.cell? ⟨b, 0, none⟩ = some (.bool sz) /\ w'.cell? ⟨b, 1, none⟩ = some (.slice az nz cz) /\ w'.cell? ⟨b + 1, 0, none⟩ = some (.bool s2) /\ w'.cell? ⟨b + 1, 1, none⟩ = some (.slice a2 n2 c2))
      (first | exact hS.out _ t1 | exact hS.out _ t2 | exact ⟨((hB.out.1.ext0 (hEd.trans t2)).ext (bb2.set3 _ _ _).2 (ob_other (by omega))).cell 0 rfl, ((hB.out.1.ext0 (hEd.trans t2)).ext (bb2.set3 _ _ _).2 (ob_other (by omega))).cell 1 rfl, ((hB.out.2.ext0 (hEd.trans t2)).ext (bb2.set3 _ _ _).2 (ob_other (by omega))).cell 0 rfl, ((hB.out.2.ext0 (hEd.trans t2)).ext (bb2.set3 _ _ _).2 (ob_other (by omega))).cell 1 rfl⟩ | go_keep)
      (first | (go_at_call 264; (with_reducible refine (iadd (hidB X b 3) ws.drew _ _ _ _ hXd hxv h00).mono ?_); rintro ee w8 ⟨t1, u8, rfl, hu8⟩; rw [hz0.out] at hu8; have hX8 := HX.ext hXd t1; have hm8 := mkx NC.mono hydd t1) | (go_at_call 233; (with_reducible refine (qlowest (hidB X b 3) w8 _ _ z y.natAbs hX8 hu8 hm8 bzn.out hly.out hy0.out).mono ?_); rintro ee w9 ⟨hE9, u9, rfl, hu9⟩; obtain ⟨s9, a9, n9, c9, d9, k9, e9, rfl⟩ := hu9.shape; have t2 := t1.trans hE9; have bb2 := bz2.ext0 (hEd.trans t2); have g0 := bb2.cell 0 rfl; have g1 := bb2.cell 1 rfl; have g2 := bb2.cell 2 rfl; have f0 := bb2.frozen 0; have f1 := bb2.frozen 1; have f2 := bb2.frozen 2))
    rw [hres.out] at hu9
    obtain ⟨q1, q2⟩ := bb2.set3 (.bool s9) (.slice a9 n9 c9) (.slice d9 k9 e9)
    have h7 := QC.mono _ _ _ _ le_unbox (QC.mono _ _ _ _ (le_store q2 (by omega) (by omega)) hu9)
    have hEf : Ext w _ := ExtX.box (hEs.trans (hEd.trans t2)) q2 (by omega)
    clear g0 g1 g2 f0 f1 f2 k00 k01 k10 k11 hS hB
    go_wp2_with fail
    exact bodyPost_ret (results_box2 rfl rfl stRat q1 rfl) rfl ⟨hEf, _, by rw [hec.out]; rfl, h7⟩
theorem div_eq (x y : Rat) : ((x.num * (y.den : Int) : Int) : Rat) / ((y.num * (x.den : Int) : Int) : Rat) = x / y := by
  have hx : (x.num : Rat) / (x.den : Rat) = x := by rw [<- Rat.mkRat_eq_div]; exact Rat.mkRat_self x
  have hy : (y.num : Rat) / (y.den : Rat) = y := by rw [<- Rat.mkRat_eq_div]; exact Rat.mkRat_self y
  rw [Rat.intCast_mul, Rat.intCast_mul, Rat.intCast_natCast, Rat.intCast_natCast]
  have h1 : (x.den : Rat) ≠ 0 := by have := x.den_nz; exact_mod_cast this
  have h2 : (y.den : Rat) ≠ 0 := by have := y.den_nz; exact_mod_cast this
  by_cases h3 : (y.num : Rat) = 0
  · rw [<- hy, h3]; simp [Rat.div_def]
  · conv => rhs; rw [<- hx, <- hy]
    grind
theorem div_zero (y x : Rat) : y.num * (x.den : Int) = 0 ↔ y = 0 := by
  have h1 : (x.den : Int) ≠ 0 := by have := x.den_nz; omega
  rw [Int.mul_eq_zero, Rat.num_eq_zero]
  exact or_iff_left h1
set_option maxRecDepth 100000 in
set_option maxHeartbeats 1600000 in
theorem qdiv (X : Nat -> Bool) (w : World) (u v : Value) (x y : Rat) (hX : HX X w) (hu : QV (mk X w) u x) (hv : QV (mk X w) v y) : Calls Tryz.prog 236 #[u, v] w (QEOut X w (x / y) (e5 (decide (y = 0)))) := by
  have hlx := hid hu.hq
  have hly := hid hv.hq
  obtain ⟨s1, a1, n1, c1, d1, k1, e1, rfl⟩ := hu.shape
  obtain ⟨s2, a2, n2, c2, d2, k2, e2, rfl⟩ := hv.shape
  obtain ⟨W, hW, hE, b0, b1, b2, hz⟩ := boxes3 w #[.bool s1, .slice a1 n1 c1, .slice d1 k1 e1] #[.bool s2, .slice a2 n2 c2, .slice d2 k2 e2] #[.bool false, .slice none 0 0, .slice none 0 0] 41 41 41
  have hXW : HX (hidB X w.heap.size 3) W := hX.boxes hz
  have hu1 := QV.mono _ _ _ _ (le_boxes (nb := 3) hE) hu
  have hv1 := QV.mono _ _ _ _ (le_boxes (nb := 3) hE) hv
  obtain ⟨b, hb⟩ : ∃ b, w.heap.size = b := ⟨_, rfl⟩
  have hbw : w.heap.size <= b := by omega
  rw [hb] at b0 b1 b2 hz hXW hu1 hv1
  have hEd : Ext W W.drew := (ExtX.refl W).drew
  have hXd : HX (hidB X b 3) W.drew := hXW
  have hud : QV (mk (hidB X b 3) W.drew) (.agg #[.bool s1, .slice a1 n1 c1, .slice d1 k1 e1]) x := hu1
  have hvd : QV (mk (hidB X b 3) W.drew) (.agg #[.bool s2, .slice a2 n2 c2, .slice d2 k2 e2]) y := hv1
  have k00 := b0.cell 0 rfl
  have k01 := b0.cell 1 rfl
  have k02 := b0.cell 2 rfl
  have k10 := b1.cell 0 rfl
  have k11 := b1.cell 1 rfl
  have k12 := b1.cell 2 rfl
  clear hu hv
  obtain ⟨ec, hec'⟩ : ∃ ec : Int, e5 (decide (y = 0)) = ec := ⟨_, rfl⟩
  rw [hec']
  replace hec' := hid hec'
  go_enter Tryz.func236, Tryz.ntmps236
  go_upto_region 1 with (fail)
  go_cut [] from 6 to 9 (fun wx => ∃ s3 a3 n3 c3 d3 k3 e3 s4 a4 n4 c4 d4 k4 e4, Bx wx b #[.bool s3, .slice a3 n3 c3, .slice d3 k3 e3] 41 /\ Bx wx (b + 1) #[.bool s4, .slice a4 n4 c4, .slice d4 k4 e4] 41 /\ Bx wx (b + 1 + 1) #[.bool false, .slice none 0 0, .slice none 0 0] 41 /\ QC (mk (hidB X b 3) wx) (.agg #[.bool s3, .slice a3 n3 c3, .slice d3 k3 e3]) x /\ QC (mk (hidB X b 3) wx) (.agg #[.bool s4, .slice a4 n4 c4, .slice d4 k4 e4]) y /\ Ext w wx)
  case first =>
    go_region_with (first | (go_at_call 207; (with_reducible refine (qvalue (hidB X b 3) W.drew _ x hXd hud).mono ?_); rintro ee w5 ⟨hE5, u5, rfl, hq5⟩; obtain ⟨s5, a5, n5, c5, d5, k5, e5, rfl⟩ := hq5.shape; have bb0 := b0.ext0 (hEd.trans hE5); have bb1 := b1.ext0 (hEd.trans hE5); have e00 := bb0.cell 0 rfl; have e01 := bb0.cell 1 rfl; have e02 := bb0.cell 2 rfl; have e10 := bb1.cell 0 rfl; have e11 := bb1.cell 1 rfl; have e12 := bb1.cell 2 rfl) | (go_at_call 207; (with_reducible refine (qvalue (hidB X b 3) w5 _ y (HX.ext hXd hE5) (mkx QV.mono hvd hE5)).mono ?_); rintro ee w6 ⟨hE6, u6, rfl, hq6⟩; obtain ⟨s6, a6, n6, c6, d6, k6, e6, rfl⟩ := hq6.shape; have bb2 := bb0.ext0 hE6; have bb3 := bb1.ext0 hE6; have g00 := bb2.cell 0 rfl; have g01 := bb2.cell 1 rfl; have g02 := bb2.cell 2 rfl; have g10 := bb3.cell 0 rfl; have g11 := bb3.cell 1 rfl; have g12 := bb3.cell 2 rfl; have fr0 := bb2.frozen 0; have fr1 := bb2.frozen 1; have fr4 := bb2.frozen 2; have fr2 := bb3.frozen 0; have fr3 := bb3.frozen 1; have fr5 := bb3.frozen 2))
    all_goals
      obtain ⟨wf, hwf, q0, q1, q2, q3, q4⟩ := two_stores3 (X := X) (nb := 3) bb2 bb3 (hE.trans ((hEd.trans hE5).trans hE6)) hbw (by omega) (.bool s5) (.slice a5 n5 c5) (.slice d5 k5 e5) (.bool s6) (.slice a6 n6 c6) (.slice d6 k6 e6)
      rw [hwf]
      have hfx : QC (mk (hidB X b 3) wf) (.agg #[.bool s5, .slice a5 n5 c5, .slice d5 k5 e5]) x := QC.mono _ _ _ _ q4 (mkx QC.mono hq5 hE6)
      have hfy : QC (mk (hidB X b 3) wf) (.agg #[.bool s6, .slice a6 n6 c6, .slice d6 k6 e6]) y := QC.mono _ _ _ _ q4 hq6
      have q5 := q2 (b + 1 + 1) _ _ (by omega) (by omega) ((b2.ext0 (hEd.trans hE5)).ext0 hE6)
      clear e00 e01 e02 e10 e11 e12 g00 g01 g02 g10 g11 g12 fr0 fr1 fr2 fr3 fr4 fr5 k00 k01 k02 k10 k11 k12 hwf
      go_wp2_with fail
      go_meet
      exact ⟨_, _, _, _, _, _, _, _, _, _, _, _, _, _, q0, q1, q5, hfx, hfy, q3⟩
  case rest =>
    clear k00 k01 k02 k10 k11 k12 b0 b1 b2 hu1 hv1 hud hvd hXd hEd hW
    obtain ⟨s3, a3, n3, c3, d3, k3, e3, s4, a4, n4, c4, d4, k4, e4, b0, b1, b2, hx, hy, hE1⟩ := hcut
    have hzz : w.heap.size + 3 <= wc.heap.size := by have := b2.lt; omega
    obtain ⟨hxz, hxm, hxdn⟩ := hx.num
    obtain ⟨hyz, hym, hydn⟩ := hy.num
    have hXc : HX (hidB X b 3) wc := hX.boxes' hE1 (by have := hzz; omega) hzz
    have k00 := b0.cell 0 rfl
    have k01 := b0.cell 1 rfl
    have k02 := b0.cell 2 rfl
    have k10 := b1.cell 0 rfl
    have k11 := b1.cell 1 rfl
    have k12 := b1.cell 2 rfl
    have hEd : Ext wc wc.drew := (ExtX.refl wc).drew
    have hXd : HX (hidB X b 3) wc.drew := hXc
    have hxd : QC (mk (hidB X b 3) wc.drew) (.agg #[.bool s3, .slice a3 n3 c3, .slice d3 k3 e3]) x := hx
    have hyd : QC (mk (hidB X b 3) wc.drew) (.agg #[.bool s4, .slice a4 n4 c4, .slice d4 k4 e4]) y := hy
    have hxzd : ZC (mk (hidB X b 3) wc.drew) (.agg #[.bool s3, .slice a3 n3 c3]) x.num := hxz
    have hyzd : ZC (mk (hidB X b 3) wc.drew) (.agg #[.bool s4, .slice a4 n4 c4]) y.num := hyz
    have bxn : lg x.num.natAbs <= 549755813888 := Nat.le_trans (Nat.le_trans (hq_num x) hlx.out) (by omega)
    have byn : lg y.num.natAbs <= 549755813888 := Nat.le_trans (Nat.le_trans (hq_num y) hly.out) (by omega)
    have bxd : lg x.den <= 549755813888 := Nat.le_trans (Nat.le_trans (hq_den x) hlx.out) (by omega)
    have byd : lg y.den <= 549755813888 := Nat.le_trans (Nat.le_trans (hq_den y) hly.out) (by omega)
    have bp1 : lg (x.num * (y.den : Int)).natAbs <= 274877906944 := by rw [Int.natAbs_mul, Int.natAbs_natCast]; have := lg_mul x.num.natAbs y.den; have := hq_num x; have := hq_den y; have := hlx.out; have := hly.out; omega
    have bp2 : lg (y.num * (x.den : Int)).natAbs <= 274877906944 := by rw [Int.natAbs_mul, Int.natAbs_natCast]; have := lg_mul y.num.natAbs x.den; have := hq_num y; have := hq_den x; have := hlx.out; have := hly.out; omega
    have bdd : lg (x.den * y.den) <= 274877906944 := by have := lg_mul x.den y.den; have := hq_den x; have := hq_den y; have := hlx.out; have := hly.out; omega
    have bnn : lg (x.num * y.num).natAbs <= 274877906944 := by rw [Int.natAbs_mul]; have := lg_mul x.num.natAbs y.num.natAbs; have := hq_num x; have := hq_num y; have := hlx.out; have := hly.out; omega
    have bd0 : 0 < x.den * y.den := Nat.mul_pos x.den_pos y.den_pos
    have hB := hid (And.intro b0 b1)
    have hS : Hid (∀ W', Ext wc.drew W' -> W'.cell? ⟨b, 0, none⟩ = some (.bool s3) /\ W'.cell? ⟨b, 1, none⟩ = some (.slice a3 n3 c3) /\ W'.cell? ⟨b, 2, none⟩ = some (.slice d3 k3 e3) /\ W'.cell? ⟨b + 1, 0, none⟩ = some (.bool s4) /\ W'.cell? ⟨b + 1, 1, none⟩ = some (.slice a4 n4 c4) /\ W'.cell? ⟨b + 1, 2, none⟩ = some (.slice d4 k4 e4)) :=
      hid fun W' h => ⟨(b0.ext0 (hEd.trans h)).cell 0 rfl, (b0.ext0 (hEd.trans h)).cell 1 rfl, (b0.ext0 (hEd.trans h)).cell 2 rfl, (b1.ext0 (hEd.trans h)).cell 0 rfl, (b1.ext0 (hEd.trans h)).cell 1 rfl, (b1.ext0 (hEd.trans h)).cell 2 rfl⟩
    have hfin : Hid (((x.num * (y.den : Int) : Int) : Rat) / ((y.num * (x.den : Int) : Int) : Rat) = x / y) := hid (div_eq x y)
    have hfe : Hid (e5 (decide (y.num * (x.den : Int) = 0)) = ec) := hid (by rw [<- hec'.out]; simp only [div_zero])
    go_wp2_with fail
    go_region_held3 (fun w' => w'.cell? ⟨b, 0, none⟩ = some (.bool s3) /\ w'.cell? ⟨b, 1, none⟩ = some (.slice a3 n3 c3) /\ w'.cell? ⟨b, 2, none⟩ = some (.slice d3 k3 e3) /\ w'.cell? ⟨b + 1, 0, none⟩ = some (.bool s4) /\ w'.cell? ⟨b + 1, 1, none⟩ = some (.slice a4 n4 c4) /\ w'.cell? ⟨b + 1, 2, none⟩ = some (.slice d4 k4 e4))
      (first | exact hS.out _ t1 | exact hS.out _ t2 | exact hS.out _ t3 | exact hS.out _ t4 | exact hS.out _ t5 | exact ⟨((hB.out.1.ext0 (hEd.trans t5)).ext (bb2.set3 _ _ _).2 (ob_other (by omega))).cell 0 rfl, ((hB.out.1.ext0 (hEd.trans t5)).ext (bb2.set3 _ _ _).2 (ob_other (by omega))).cell 1 rfl, ((hB.out.1.ext0 (hEd.trans t5)).ext (bb2.set3 _ _ _).2 (ob_other (by omega))).cell 2 rfl, ((hB.out.2.ext0 (hEd.trans t5)).ext (bb2.set3 _ _ _).2 (ob_other (by omega))).cell 0 rfl, ((hB.out.2.ext0 (hEd.trans t5)).ext (bb2.set3 _ _ _).2 (ob_other (by omega))).cell 1 rfl, ((hB.out.2.ext0 (hEd.trans t5)).ext (bb2.set3 _ _ _).2 (ob_other (by omega))).cell 2 rfl⟩ | go_keep)
      (first | (go_at_call 235; (with_reducible refine (qden (hidB X b 3) wc.drew _ y hXd hyd).mono ?_); rintro ee w5 ⟨t1, u5, rfl, hu5⟩; have hX5 := HX.ext hXd t1; have hx5 := mkx ZC.mono hxzd t1) | (go_at_call 260; (with_reducible refine (qtimes (hidB X b 3) w5 _ _ x.num y.den hX5 hx5 hu5 bxn byd).mono ?_); rintro ee w6 ⟨hE6, u6, rfl, hu6⟩; have t2 := t1.trans hE6; have hX6 := HX.ext hXd t2; have hx6 := mkx QC.mono hxd t2) | (go_at_call 235; (with_reducible refine (qden (hidB X b 3) w6 _ x hX6 hx6).mono ?_); rintro ee w7 ⟨hE7, u7, rfl, hu7⟩; have t3 := t2.trans hE7; have hX7 := HX.ext hXd t3; have hy7 := mkx ZC.mono hyzd t3) | (go_at_call 260; (with_reducible refine (qtimes (hidB X b 3) w7 _ _ y.num x.den hX7 hy7 hu7 byn bxd).mono ?_); rintro ee w8 ⟨hE8, u8, rfl, hu8⟩; have t4 := t3.trans hE8; have hX8 := HX.ext hXd t4; have hz6 := mkx ZC.mono hu6 (hE7.trans hE8)) | (go_at_call 295; (with_reducible refine (qmake (hidB X b 3) w8 _ _ _ _ hX8 hz6 hu8 (Nat.le_trans bp1 (by decide)) (Nat.le_trans bp2 (by decide))).mono ?_); rintro ee w13 ⟨hE13, u13, rfl, hu13⟩; obtain ⟨s13, a13, n13, c13, d13, k13, e13, rfl⟩ := hu13.shape; have t5 := t4.trans hE13; have bb2 := b2.ext0 (hEd.trans t5); have g0 := bb2.cell 0 rfl; have g1 := bb2.cell 1 rfl; have g2 := bb2.cell 2 rfl; have f0 := bb2.frozen 0; have f1 := bb2.frozen 1; have f2 := bb2.frozen 2))
    obtain ⟨r1, r2⟩ := bb2.set3 (.bool s13) (.slice a13 n13 c13) (.slice d13 k13 e13)
    have h7 := QC.mono _ _ _ _ le_unbox (QC.mono _ _ _ _ (le_store r2 (by omega) (by omega)) hu13)
    rw [hfin.out] at h7
    have hEf : Ext w _ := ExtX.box (hE1.trans (hEd.trans t5)) r2 (by omega)
    clear g0 g1 g2 f0 f1 f2 k00 k01 k02 k10 k11 k12 hS hB
    go_wp2_with fail
    exact bodyPost_ret (results_box2 rfl rfl stRat r1 rfl) rfl ⟨hEf, _, by rw [<- hfe.out]; rfl, h7⟩
end Go.Proofs.YtnnpfhoigmegcaaGreat
namespace Go.Proofs.YtnnpfhoigmegcaaGreat
open Go.RowKit Go.Rep Go.Lim
theorem rqone (X : Nat -> Bool) (w : World) (u : Value) (n : Nat) (hu : NC (mk X w) u n) (hn : lg n <= 1099511627776) : Calls Tryz.prog 199 #[u] w fun e w' => w = w' /\ e = .returned (.bool (decide (n = 1))) := by
  obtain ⟨ao, ca, a, rfl, hca, hcan, hsa⟩ := hu
  have hal := hcan.len
  by_cases h1 : a.length = 1
  · have hk : 0 < a.length := by omega
    have hcell := hsa.nat 0 hk
    have hh := hsa.hd
    obtain ⟨x, rfl⟩ : ∃ x, a = [x] := by
      match a, h1 with
      | [x], _ => exact ⟨x, rfl⟩
    have hnx : n = x := by have := hcan.2.2; simp [nv] at this; omega
    obtain rfl := hnx
    simp only [List.length_singleton, List.getElem_cons_zero] at hcell hca hh hk |-
    by_cases h2 : n = 1
    · have hI : ((n : Int) == 1) = true := by rw [h2]; rfl
      have hf : Hid (decide (n = 1) = true) := hid (decide_eq_true h2)
      clear h2 h1 hcan hsa hal
      go_enter Tryz.func199, Tryz.ntmps199
      go_wp2_with (with_reducible refine up_ix1 slU32 (by omega) (by assumption) ?_)
      go_ret
      exact ⟨rfl, ret_bool hf.out.symm⟩
    · have hI : ((n : Int) == 1) = false := beqF (by omega)
      have hf : Hid (decide (n = 1) = false) := hid (decide_eq_false h2)
      clear h2 h1 hcan hsa hal
      go_enter Tryz.func199, Tryz.ntmps199
      go_wp2_with (with_reducible refine up_ix1 slU32 (by omega) (by assumption) ?_)
      go_ret
      exact ⟨rfl, ret_bool hf.out.symm⟩
  · have hI : ((a.length : Int) == 1) = false := beqF (by omega)
    have hf : Hid (decide (n = 1) = false) := hid (decide_eq_false (by rintro rfl; rw [lg_one] at hal; exact h1 hal))
    have hal2 : a.length <= 1099511627776 := by omega
    clear h1 hal hn
    go_enter Tryz.func199, Tryz.ntmps199
    go_wp2_with (with_reducible refine up_ix1 slU32 (by omega) (by assumption) ?_)
    go_ret
    exact ⟨rfl, ret_bool hf.out.symm⟩
set_option maxRecDepth 100000 in
theorem rqvalid (X : Nat -> Bool) (w : World) (s : Bool) (ao bo : Option Addr) (c e : Nat) (m d : List Nat) (hX : HX X w) (hm : Sl (NatIn .u32) 1 (mk X w) ao m) (hd : Sl (NatIn .u32) 1 (mk X w) bo d) (hml : m.length <= 68719476736) (hdl : d.length <= 68719476736) (hmd : Dig m) (hdd : Dig d) (hmc : m.length <= c) (hdc : d.length <= e) :
    Calls Tryz.prog 195 #[.agg #[.bool s, .slice ao m.length c, .slice bo d.length e]] w (BOut w (validQ s m d)) := by
  obtain ⟨W, hW, hE, b0, hz⟩ := boxes1 w #[.bool s, .slice ao m.length c, .slice bo d.length e] 41
  have hXW : HX X W := hX.ext hE
  have hmW := hm.mono (NatIn.mono _) (mk_ext hE)
  have hdW := hd.mono (NatIn.mono _) (mk_ext hE)
  obtain ⟨b, hb⟩ : ∃ b, w.heap.size = b := ⟨_, rfl⟩
  rw [hb] at b0 hz
  have k00 := b0.cell 0 rfl
  have k01 := b0.cell 1 rfl
  have k02 := b0.cell 2 rfl
  have hdef : Hid (validQ s m d = (validZ s m && validL d && (decide (d.length = 0) || (decide (0 < m.length) && !(nv d == 1) && (Nat.gcd (nv m) (nv d) == 1))))) := hid rfl
  clear hX hm hd hz
  cases hv : validZ s m
  · have hf : Hid (validQ s m d = false) := hid (by rw [hdef.out, hv]; rfl)
    have hv' := hid hv
    clear hv hdef
    go_enter Tryz.func195, Tryz.ntmps195
    go_wp2_with fail
    refine (rivalid X W s ao c m hmW (by omega)).mono ?_
    rintro e w1 ⟨hE1, rfl⟩
    rw [hv'.out]
    clear k00 k01 k02
    go_wp2_with fail
    go_ret
    exact ⟨hE.trans hE1, ret_bool hf.out.symm⟩
  · cases hl : validL d
    · have hf : Hid (validQ s m d = false) := hid (by rw [hdef.out, hv, hl]; rfl)
      have hv' := hid hv
      have hl' := hid hl
      clear hv hdef hl
      go_enter Tryz.func195, Tryz.ntmps195
      go_wp2_with fail
      refine (rivalid X W s ao c m hmW (by omega)).mono ?_
      rintro e w1 ⟨hE1, rfl⟩
      rw [hv'.out]
      have j02 := (b0.ext0 hE1).cell 2 rfl
      have hd1 := hdW.mono (NatIn.mono _) (mk_ext hE1)
      clear k00 k01 k02
      go_wp2_with fail
      refine (rvalid_any X _ _ _ _ hd1 (by omega)).mono ?_
      rintro e w2 ⟨rfl, rfl⟩
      rw [hl'.out]
      clear j02
      go_wp2_with fail
      go_ret
      exact ⟨hE.trans hE1, ret_bool hf.out.symm⟩
    · have hf : Hid (validQ s m d = (decide (d.length = 0) || (decide (0 < m.length) && !(nv d == 1) && (Nat.gcd (nv m) (nv d) == 1)))) := hid (by rw [hdef.out, hv, hl]; rfl)
      have hv' := hid hv
      have hl' := hid hl
      have hmv : validL m = true := by unfold validZ at hv; simp at hv; exact hv.1
      have hcm := hid (show Canon m (nv m) from ⟨hmd, hmv, rfl⟩)
      have hcd := hid (show Canon d (nv d) from ⟨hdd, hl, rfl⟩)
      have hln := hid hcd.out.len
      have hln' := hid hcm.out.len
      clear hv hdef hl hmv
      go_enter Tryz.func195, Tryz.ntmps195
      go_wp2_with fail
      refine (rivalid X W s ao c m hmW (by omega)).mono ?_
      rintro e' w1 ⟨hE1, rfl⟩
      rw [hv'.out]
      have b1 := b0.ext0 hE1
      have j02 := b1.cell 2 rfl
      have j01 := b1.cell 1 rfl
      have hd1 := hdW.mono (NatIn.mono _) (mk_ext hE1)
      have hm1 := hmW.mono (NatIn.mono _) (mk_ext hE1)
      have hX1 := hXW.ext hE1
      have hmn : NC (mk X w1) (.slice ao m.length c) (nv m) := ⟨ao, c, m, rfl, hmc, hcm.out, hm1⟩
      have hdn : NC (mk X w1) (.slice bo d.length e) (nv d) := ⟨bo, e, d, rfl, hdc, hcd.out, hd1⟩
      clear k00 k01 k02
      go_wp2_with fail
      refine (rvalid_any X _ _ _ _ hd1 (by omega)).mono ?_
      rintro e' w2 ⟨rfl, rfl⟩
      rw [hl'.out]
      go_wp2_with fail
      refine (rqone X _ _ _ hdn (by rw [<- hln.out]; omega)).mono ?_
      rintro e' w3 ⟨rfl, rfl⟩
      by_cases h1 : nv d = 1
      · have hf2 : Hid (validQ s m d = false) := hid (by
          have h5 : d.length ≠ 0 := by rw [hln.out, h1, lg_one]; decide
          rw [hf.out, h1, decide_eq_false h5]; simp)
        rw [decide_eq_true h1]
        clear h1 hf
        go_wp2_with fail
        go_ret
        exact ⟨hE.trans hE1, ret_bool hf2.out.symm⟩
      · rw [decide_eq_false h1]
        by_cases h0 : d.length = 0
        · have hf2 : Hid (validQ s m d = true) := hid (by rw [hf.out, decide_eq_true h0]; rfl)
          have hdI : ((d.length : Int) == 0) = true := by rw [h0]; rfl
          clear h0 h1 hf
          go_wp2_with fail
          go_ret
          exact ⟨hE.trans hE1, ret_bool hf2.out.symm⟩
        · have hdI : ((d.length : Int) == 0) = false := beqF (by omega)
          by_cases hm0 : m.length = 0
          · have hf2 : Hid (validQ s m d = false) := hid (by rw [hf.out, decide_eq_false h0, decide_eq_false (by omega)]; rfl)
            have hmI : ¬ ((0 : Int) < (m.length : Int)) := by omega
            clear h0 h1 hf hm0
            go_wp2_with fail
            go_ret
            exact ⟨hE.trans hE1, ret_bool hf2.out.symm⟩
          · have hmI : (0 : Int) < (m.length : Int) := by omega
            have hf2 : Hid (validQ s m d = decide (Nat.gcd (nv m) (nv d) = 1)) := hid (by
              rw [hf.out, decide_eq_false h0, decide_eq_true (by omega), Bool.eq_iff_iff]; simp [h1])
            have hgl : Hid (lg (Nat.gcd (nv m) (nv d)) <= 1099511627776) := hid (by
              have h2 : Nat.gcd (nv m) (nv d) <= nv d := Nat.gcd_le_right _ (by
                rcases Nat.eq_zero_or_pos (nv d) with h3 | h3
                · exfalso; apply h0; rw [hln.out, h3]; rfl
                · exact h3)
              refine Nat.le_trans (lg_mono h2) ?_
              rw [<- hln.out]; omega)
            clear h0 h1 hf hm0
            go_wp2_with fail
            refine (rngcd X _ _ _ _ _ hX1 (hmn.nv (by rw [<- hln'.out]; omega)) (hdn.nv (by rw [<- hln.out]; omega)) (by rw [<- hln'.out]; omega) (by rw [<- hln.out]; omega)).mono ?_
            rintro e7 w7 ⟨hE7, u7, rfl, hu7⟩
            clear j01 j02
            go_wp2_with fail
            refine (rqone X _ _ _ hu7 hgl.out).mono ?_
            rintro e' w3 ⟨rfl, rfl⟩
            rw [<- hf2.out]
            go_wp2_with fail
            go_ret
            exact ⟨hE.trans (hE1.trans hE7), rfl⟩
end Go.Proofs.YtnnpfhoigmegcaaGreat
namespace Go.Proofs.YtnnpfhoigmegcaaGreat
open Go.RowKit Go.Rep Go.Lim
theorem _root_.Go.Rep.NC.zc {h : Mem} {ao : Option Addr} {n c k : Nat} (hu : NC h (.slice ao n c) k) : ZC h (.agg #[.bool false, .slice ao n c]) (k : Int) := by
  obtain ⟨_, _, l, heq, b1, b2, b3⟩ := hu
  simp only [Value.slice.injEq] at heq
  obtain ⟨rfl, rfl, rfl⟩ := heq
  exact ⟨_, _, _, l, rfl, b1, ⟨(decide_eq_false (by omega)).symm, by rw [Int.natAbs_natCast]; exact b2⟩, b3⟩
set_option maxRecDepth 100000 in
theorem rqtake (X : Nat -> Bool) (w : World) (u : Value) (q : Rat) (hX : HX X w) (hu : QV (mk X w) u q) : Calls Tryz.prog 118 #[u] w (ROut X w QC q) := by
  have hlx := hid hu.hq
  obtain ⟨s, ao, c, m, bo, e, d, rfl, h1, h2, h3, h4, h5, h6, h7, h8, rfl⟩ := hu
  obtain ⟨W, hW, hE, b0, b1, hz⟩ := boxes2 w #[.bool s, .slice ao m.length c, .slice bo d.length e] #[.bool false, .slice none 0 0, .slice none 0 0] 41 41
  have hXW : HX (hidB X w.heap.size 2) W := hX.boxes hz
  have hs1 : Sl (NatIn .u32) 1 (mk (hidB X w.heap.size 2) W) ao m := h7.mono (NatIn.mono _) (le_boxes hE)
  have hs2 : Sl (NatIn .u32) 1 (mk (hidB X w.heap.size 2) W) bo d := h8.mono (NatIn.mono _) (le_boxes hE)
  obtain ⟨b, hb⟩ : ∃ b, w.heap.size = b := ⟨_, rfl⟩
  have hbw : w.heap.size <= b := by omega
  rw [hb] at b0 b1 hz hs1 hs2 hXW
  have c0 := b0.cell 0 rfl
  have c1 := b0.cell 1 rfl
  have c2 := b0.cell 2 rfl
  cases hv : validQ s m d
  · have hz0 := hid (qval_invalid hv)
    have hv' := hid hv
    clear hv hlx
    go_enter Tryz.func118, Tryz.ntmps118
    go_wp2_with fail
    refine (rqvalid (hidB X b 2) W s ao bo c e m d hXW hs1 hs2 h5 h6 h3 h4 h1 h2).mono ?_
    rintro e1 w1 ⟨hE1, rfl⟩
    rw [hv'.out]
    have b1' := b1.ext0 hE1
    clear c0 c1 c2
    go_wp2_with ((with_reducible show wpList _ _ _ (⟨_, .store _ _ _, _, _, _, _⟩ :: _) _ _); refine st_storeBox stRat rfl rfl b1' rfl rfl (one3 _ _ _ _ _ _ _) ?_; intro w2 b2 hE2)
    exact bodyPost_ret (results_box rfl rfl stRat b2 rfl) rfl ⟨ExtX.box (hE.trans hE1) hE2 (by omega), _, rfl, by rw [hz0.out]; exact QC.zero _⟩
  · have hv' := hid hv
    have hcq := CanQ.of_valid h3 h4 hv
    have hx : QC (mk (hidB X b 2) W) (.agg #[.bool s, .slice ao m.length c, .slice bo d.length e]) (qval s m d) := ⟨s, ao, c, m, bo, e, d, rfl, h1, h2, hcq, hs1, hs2⟩
    obtain ⟨q, hq⟩ : ∃ q, qval s m d = q := ⟨_, rfl⟩
    rw [hq] at hx hlx |-
    clear hv hcq hq
    go_enter Tryz.func118, Tryz.ntmps118
    go_wp2_with fail
    refine (rqvalid (hidB X b 2) W s ao bo c e m d hXW hs1 hs2 h5 h6 h3 h4 h1 h2).mono ?_
    rintro e1 w7 ⟨hE1, rfl⟩
    rw [hv'.out]
    have r1 := b0.ext0 hE1
    have bb3 := b1.ext0 hE1
    have hE7 := hE.trans hE1
    have hx7 := mkx QC.mono hx hE1
    have hX7 := hXW.ext hE1
    clear c0 c1 c2
    obtain ⟨hxz, hxm, hxdn⟩ := hx7.num
    have hEd : Ext w7 w7.drew := (ExtX.refl w7).drew
    have hXd : HX (hidB X b 2) w7.drew := hX7
    have hxzd : ZC (mk (hidB X b 2) w7.drew) (.agg #[.bool s, .slice ao m.length c]) q.num := hxz
    have hxdd : NC (mk (hidB X b 2) w7.drew) (.slice bo d.length e) (dn q) := hxdn
    have bxn : lg q.num.natAbs <= 549755813888 := Nat.le_trans (Nat.le_trans (hq_num q) hlx.out) (by omega)
    have bxd : lg (dn q) <= 549755813888 := Nat.le_trans (Nat.le_trans (dn_le q) hlx.out) (by omega)
    have hxv := hxzd.zv bxn
    have k00 := r1.cell 0 rfl
    have k01 := r1.cell 1 rfl
    have k02 := r1.cell 2 rfl
    have hS : Hid (∀ W', Ext w7.drew W' -> W'.cell? ⟨b, 0, none⟩ = some (.bool s) /\ W'.cell? ⟨b, 1, none⟩ = some (.slice ao m.length c) /\ W'.cell? ⟨b, 2, none⟩ = some (.slice bo d.length e)) :=
      hid fun W' h => ⟨(r1.ext0 (hEd.trans h)).cell 0 rfl, (r1.ext0 (hEd.trans h)).cell 1 rfl, (r1.ext0 (hEd.trans h)).cell 2 rfl⟩
    go_wp2_with fail
    go_region_held3 (fun w' => w'.cell? ⟨b, 0, none⟩ = some (.bool s) /\ w'.cell? ⟨b, 1, none⟩ = some (.slice ao m.length c) /\ w'.cell? ⟨b, 2, none⟩ = some (.slice bo d.length e))
      (first | exact hS.out _ t1 | exact hS.out _ t2 | exact ⟨((r1.ext0 (hEd.trans t2)).ext (bb2.set3 _ _ _).2 (ob_other (by omega))).cell 0 rfl, ((r1.ext0 (hEd.trans t2)).ext (bb2.set3 _ _ _).2 (ob_other (by omega))).cell 1 rfl, ((r1.ext0 (hEd.trans t2)).ext (bb2.set3 _ _ _).2 (ob_other (by omega))).cell 2 rfl⟩ | go_keep)
      (first | (go_at_call 194; (with_reducible refine (ritake (hidB X b 2) w7.drew _ _ hXd hxv).mono ?_); rintro ee w8 ⟨t1, u8, rfl, s8, a8, c8, l8, rfl, h81, h82, h83⟩; have hX8 := HX.ext hXd t1; have hm8 := (mkx NC.mono hxdd t1).nv (Nat.le_trans bxd (by decide))) | (go_at_call 196; (with_reducible refine (rntake hX8 hm8).mono ?_); rintro ee w9 ⟨hE9, u9, rfl, a9, c9, l9, rfl, h91, h92, h93⟩; have t2 := t1.trans hE9; have hh8 := Sl.mono (NatIn.mono _) (mk_ext hE9) h83; have bb2 := bb3.ext0 (hEd.trans t2); have g0 := bb2.cell 0 rfl; have g1 := bb2.cell 1 rfl; have g2 := bb2.cell 2 rfl; have f0 := bb2.frozen 0; have f1 := bb2.frozen 1; have f2 := bb2.frozen 2))
    obtain ⟨q1, q2⟩ := bb2.set3 (.bool s8) (.slice a8 l8.length c8) (.slice a9 l9.length c9)
    have hz : ZC (mk (hidB X b 2) w9) (.agg #[.bool s8, .slice a8 l8.length c8]) q.num := ⟨s8, a8, c8, l8, rfl, h81, h82, hh8⟩
    have hd : NC (mk (hidB X b 2) w9) (.slice a9 l9.length c9) (dn q) := ⟨a9, c9, l9, rfl, h91, h92, h93⟩
    have h7 := QC.mono _ _ _ _ le_unbox (QC.mono _ _ _ _ (le_store q2 (by omega) (by omega)) (QC.of hz hd))
    have hEf : Ext w _ := ExtX.box (hE7.trans (hEd.trans t2)) q2 (by omega)
    clear g0 g1 g2 f0 f1 f2 k00 k01 k02 hS
    go_wp2_with fail
    exact bodyPost_ret (results_box rfl rfl stRat q1 rfl) rfl ⟨hEf, _, rfl, h7⟩
set_option maxRecDepth 100000 in
theorem rqden (X : Nat -> Bool) (w : World) (u : Value) (q : Rat) (hX : HX X w) (hu : QC (mk X w) u q) (hq : hq q <= 549755813888) : Calls Tryz.prog 122 #[u] w (ROut X w ZC (q.den : Int)) := by
  obtain ⟨s, ao, n, c, bo, k, e, rfl⟩ := hu.shape
  obtain ⟨W, hW, hE, b0, b1, hz⟩ := boxes2 w #[.bool s, .slice ao n c, .slice bo k e] #[.bool false, .slice none 0 0] 41 39
  have hXW : HX (hidB X w.heap.size 2) W := hX.boxes hz
  have hd := NC.mono _ _ _ _ (le_boxes (nb := 2) hE) hu.num.2.2
  have hl := hd.len0
  rw [dn_zero] at hl
  obtain ⟨b, hb⟩ : ∃ b, w.heap.size = b := ⟨_, rfl⟩
  have hbw : w.heap.size <= b := by omega
  rw [hb] at b0 b1 hz hXW hd
  have k02 := b0.cell 2 rfl
  have hdv := hid (hd.nv (Nat.le_trans (Nat.le_trans (dn_le q) hq) (by decide)))
  by_cases h0 : k = 0
  · have hf := hid (hl.1 h0)
    subst h0
    have hE3 : Ext W (W.alloc (.cells #[.int .u32 ((1 : Nat) : Int)] 110)) := (ExtX.refl W).alloc _
    have hn1 := NC.lit hXW 1 110 (by omega) (by omega)
    have bb1 := b1.ext0 hE3
    rw [show W.heap.size = b + 2 by omega] at hn1
    clear hl hd hdv hu
    go_enter Tryz.func122, Tryz.ntmps122
    go_wp2_with ((with_reducible show wpList _ _ _ (⟨_, .store _ _ _, _, _, _, _⟩ :: _) _ _); refine st_storeBox stInt rfl rfl bb1 rfl rfl (one2 _ _ _ _) ?_; intro w7 r1 r2)
    have h7 := NC.mono _ _ _ _ le_unbox (NC.mono _ _ _ _ (le_store r2 (by omega) (by omega)) hn1)
    exact bodyPost_ret (results_box rfl rfl stInt r1 rfl) rfl ⟨ExtX.box (hE.trans hE3) r2 (by omega), _, rfl, by rw [hf.out]; exact NC.zc h7⟩
  · have hf : Hid (dn q = q.den) := hid (by unfold dn; rw [if_neg (fun h => h0 (hl.2 h))])
    have hI : ((k : Int) == 0) = false := beqF (by omega)
    clear hl h0 hu hd
    go_enter Tryz.func122, Tryz.ntmps122
    go_wp2_with fail
    refine (rntake hXW hdv.out).mono ?_
    rintro ee w5 ⟨hE5, u5, rfl, hu5⟩
    rw [hf.out] at hu5
    obtain ⟨a5, c5, l5, rfl, h51, h52, h53⟩ := hu5
    have bb1 := b1.ext0 hE5
    clear k02
    go_wp2_with ((with_reducible show wpList _ _ _ (⟨_, .store _ _ _, _, _, _, _⟩ :: _) _ _); refine st_storeBox stInt rfl rfl bb1 rfl rfl (one2 _ _ _ _) ?_; intro w7 r1 r2)
    have h7 := NC.mono _ _ _ _ le_unbox (NC.mono _ _ _ _ (le_store r2 (by omega) (by omega)) ⟨a5, c5, l5, rfl, h51, h52, h53⟩)
    exact bodyPost_ret (results_box rfl rfl stInt r1 rfl) rfl ⟨ExtX.box (hE.trans hE5) r2 (by omega), _, rfl, NC.zc h7⟩
end Go.Proofs.YtnnpfhoigmegcaaGreat
namespace Go.Proofs.YtnnpfhoigmegcaaGreat
open Go.RowKit Go.Rep Go.Lim
theorem take_snoc {α : Type} (l : List α) (i : Nat) (h : i < l.length) : l.take i ++ [l[i]] = l.take (i + 1) := by
  rw [List.take_add_one, List.getElem?_eq_getElem h]; rfl
theorem len_take {α : Type} {l : List α} {i : Nat} (h : i <= l.length) : (l.take i).length = i := by simp; omega
set_option maxRecDepth 100000 in
theorem rqtakelist (X : Nat -> Bool) (w : World) (u : Value) (l : List Rat) (hX : HX X w) (hu : RV (mk X w) u l) (hl : l.length <= 1000000) : Calls Tryz.prog 246 #[u] w (ROut X w RC l) := by
  obtain ⟨ao, ca, rfl, hca, hsa⟩ := hu
  have hha := hsa.hd
  go_enter Tryz.func246, Tryz.ntmps246
  go_wp2_with fail
  go_loopw [3, 4] (fun o c wr => ∃ (i : Nat) (oo : Option Addr) (co : Nat), c = .int .i64 i /\ o = .slice oo i co /\ i <= l.length /\ OL QC 3 X w.heap.size 41 wr oo co (l.take i) /\ Ext w wr) (fun _ c _ => l.length - (intOf c).toNat)
  case atStart => exact ⟨0, none, 0, rfl, rfl, Nat.zero_le _, OL.nil _ _ _ _ _ _, ExtX.refl _⟩
  case round =>
    obtain ⟨i, oo, co, rfl, rfl, hi, hO, hE⟩ := hrel
    have hXr : HX X wr := hX.ext hE
    have hXu : HX (un X oo) wr := hO.unX hXr
    have hbase := hE.size
    by_cases hlt : i < l.length
    · have hsr : Sl QV 3 (mk (un X oo) wr) ao l := hsa.old QV.mono hE (fun j hj => hO.ob_lt hj)
      have htk := hid (take_snoc l i hlt)
      have hln := hid (len_take hi)
      go_wp2_with (first | (with_reducible refine up_ixn slRat (by omega) (by assumption) ?_) | ((with_reducible show wpList _ _ _ (⟨_, .load _ _, _, _, _, _⟩ :: _) _ _); refine st_loadElem stRat i hsr hlt rfl (by simp) QV.agg ?_; intro u5 hu5; obtain ⟨s5, a5, n5, c5, d5, k5, e5, rfl⟩ := hu5.shape))
      refine (rqtake (un X oo) wr _ _ hXu hu5).mono ?_
      rintro e w6 ⟨hE6, u6, rfl, hu6⟩
      obtain ⟨s6, a6, n6, c6, d6, k6, e6, rfl⟩ := hu6.shape
      have hO6 := hO.ext0 QC.elem hE6
      have hb6 := hE6.size
      go_wp2_with (at_builtin; refine st_append1n (l := l.take i) slRat rfl QC.elem (by omega) (hXr.ext hE6) i hln.out rfl rfl hO6 (.agg #[.bool s6, .slice a6 n6 c6, .slice d6 k6 e6]) l[i] rfl hu6 (by omega) (by omega) ?_; intro oo2 co2 w7 hO7 hE7 hor)
      have hE8 := (hE.trans hE6).own hO6 (Nat.le_refl _) hE7
      rw [htk.out] at hO7
      go_roundw
      case rel => exact ⟨i + 1, oo2, co2, by go_num, by go_num, by omega, hO7, hE8⟩
      case measure => simp [intOf]; omega
    · have hil : i = l.length := by omega
      subst hil
      rw [List.take_length] at hO
      have hc := hO.lenCap
      have hs := hO.sl QC.elem
      go_wp2_with fail
      go_ret
      exact ⟨hE, _, rfl, oo, co, rfl, hc, hs⟩
end Go.Proofs.YtnnpfhoigmegcaaGreat
namespace Go.Lin
open Go.Lim
end Go.Lin
namespace Go.Proofs.YtnnpfhoigmegcaaGreat
open Go.RowKit Go.Rep Go.Lim Go.Lin
end Go.Proofs.YtnnpfhoigmegcaaGreat
namespace Go.Lin
open Go.Lim
end Go.Lin
