/- Parts of a proof: each theorem states what it proves, and its conditions. -/
import Derived.Test.YtnnpfhoigmegcaaGreatFlD
import Derived.Deep.RegionHeld3
namespace Go.Lim
def sg (s : Bool) (n : Nat) : Int := if s then -(n : Int) else n
theorem sg_canz {s : Bool} {l : List Nat} {n : Nat} (h : Canon l n) : CanZ (s && decide (0 < l.length)) l (sg s n) := by
  have h0 := canon_len0 h
  unfold sg
  cases s
  · refine ⟨?_, by simpa using h⟩; simp
  · refine ⟨?_, by simpa using h⟩
    rw [Bool.true_and, Bool.eq_iff_iff]
    simp only [decide_eq_true_eq, if_true]
    omega
theorem sg_abs (s : Bool) (n : Nat) : (sg s n).natAbs = n := by unfold sg; split <;> simp
theorem sg_of {s : Bool} {l : List Nat} {z : Int} (h : CanZ s l z) : sg s z.natAbs = z := by
  unfold sg
  rw [h.1]
  by_cases hz : z < 0
  · simp only [hz, decide_true, if_true]; omega
  · simp only [hz, decide_false, Bool.false_eq_true, if_false]; omega
end Go.Lim
namespace Go.Proofs.YtnnpfhoigmegcaaGreat
open Go.RowKit Go.Rep Go.Lim
theorem isigned (X : Nat -> Bool) (w : World) (s : Bool) (u : Value) (n : Nat) (_hX : HX X w) (hu : NC (mk X w) u n) : Calls Tryz.prog 292 #[.bool s, u] w (ROut X w ZC (sg s n)) := by
  obtain ⟨ao, c, l, rfl, h1, h2, h3⟩ := hu
  obtain ⟨W, hW⟩ : ∃ W, w.alloc (.cells #[.bool false, .slice none 0 0] 39) = W := ⟨_, rfl⟩
  have hE : Ext w W := by rw [<- hW]; exact (ExtX.refl w).alloc _
  have b0 : Bx W w.heap.size #[.bool false, .slice none 0 0] 39 := by rw [<- hW]; exact Bx.new w _ _
  have hs1 : Sl (NatIn .u32) 1 (mk (hidB X w.heap.size 1) W) ao l := h3.mono (NatIn.mono _) (le_boxes hE)
  obtain ⟨b, hb⟩ : ∃ b, w.heap.size = b := ⟨_, rfl⟩
  have hbw : w.heap.size <= b := by omega
  rw [hb] at b0 hs1
  have hcz : Hid (CanZ (s && decide (0 < l.length)) l (sg s n)) := hid (sg_canz h2)
  cases s
  · rw [Bool.false_and] at hcz
    go_enter Tryz.func292, Tryz.ntmps292
    go_wp2_with ((with_reducible show wpList _ _ _ (⟨_, .store _ _ _, _, _, _, _⟩ :: _) _ _); refine st_storeBox stInt rfl rfl b0 rfl rfl (one2 _ _ _ _) ?_; intro w2 b2 hE2)
    have hs3 := (hs1.mono (NatIn.mono _) (le_store hE2 (by omega) (by omega))).mono (NatIn.mono _) le_unbox
    exact bodyPost_ret (results_box rfl rfl stInt b2 rfl) rfl ⟨ExtX.box hE hE2 (by omega), _, rfl, _, ao, c, l, rfl, h1, hcz.out, hs3⟩
  · rw [Bool.true_and] at hcz
    by_cases h0 : 0 < l.length
    · rw [decide_eq_true h0] at hcz
      go_enter Tryz.func292, Tryz.ntmps292
      go_wp2_with ((with_reducible show wpList _ _ _ (⟨_, .store _ _ _, _, _, _, _⟩ :: _) _ _); refine st_storeBox stInt rfl rfl b0 rfl rfl (one2 _ _ _ _) ?_; intro w2 b2 hE2)
      have hs3 := (hs1.mono (NatIn.mono _) (le_store hE2 (by omega) (by omega))).mono (NatIn.mono _) le_unbox
      exact bodyPost_ret (results_box rfl rfl stInt b2 rfl) rfl ⟨ExtX.box hE hE2 (by omega), _, rfl, _, ao, c, l, rfl, h1, hcz.out, hs3⟩
    · rw [decide_eq_false h0] at hcz
      obtain rfl : l = [] := List.eq_nil_of_length_eq_zero (by omega)
      clear h0
      simp only [List.length_nil] at h1 hcz hs1 |-
      go_enter Tryz.func292, Tryz.ntmps292
      go_wp2_with ((with_reducible show wpList _ _ _ (⟨_, .store _ _ _, _, _, _, _⟩ :: _) _ _); refine st_storeBox stInt rfl rfl b0 rfl rfl (one2 _ _ _ _) ?_; intro w2 b2 hE2)
      have hs3 := (hs1.mono (NatIn.mono _) (le_store hE2 (by omega) (by omega))).mono (NatIn.mono _) le_unbox
      exact bodyPost_ret (results_box rfl rfl stInt b2 rfl) rfl ⟨ExtX.box hE hE2 (by omega), _, rfl, _, ao, c, [], rfl, h1, hcz.out, hs3⟩
theorem icopied (X : Nat -> Bool) (w : World) (u : Value) (z : Int) (hX : HX X w) (hu : ZC (mk X w) u z) (hn : lg z.natAbs <= 549755813888) : Calls Tryz.prog 327 #[u] w (ROut X w ZC z) := by
  obtain ⟨s, ao, c, l, rfl, h1, h2, h3⟩ := hu
  obtain ⟨W, hW⟩ : ∃ W, (w.alloc (.cells #[.bool s, .slice ao l.length c] 39)).alloc (.cells #[.bool false, .slice none 0 0] 39) = W := ⟨_, rfl⟩
  have hE : Ext w W := by rw [<- hW]; exact ((ExtX.refl w).alloc _).alloc _
  have b0 : Bx W w.heap.size #[.bool s, .slice ao l.length c] 39 := by
    rw [<- hW]; exact (Bx.new w _ _).ext0 ((ExtX.refl _).alloc _)
  have b1 : Bx W (w.heap.size + 1) #[.bool false, .slice none 0 0] 39 := by
    rw [<- hW]; have := Bx.new (w.alloc (.cells #[.bool s, .slice ao l.length c] 39)) #[.bool false, .slice none 0 0] 39; simpa using this
  have hz : W.heap.size = w.heap.size + 2 := by rw [<- hW]; simp
  have hXW : HX (hidB X w.heap.size 2) W := hX.boxes hz
  have hu1 : NV (mk (hidB X w.heap.size 2) W) (.slice ao l.length c) z.natAbs := ⟨ao, c, l, rfl, h1, h2.2.1, by rw [h2.len]; omega, h3.mono (NatIn.mono _) (le_boxes hE), h2.2.val⟩
  obtain ⟨b, hb⟩ : ∃ b, w.heap.size = b := ⟨_, rfl⟩
  have hbw : w.heap.size <= b := by omega
  rw [hb] at b0 b1 hz hXW hu1
  have c0 := b0.cell 0 rfl
  have c1 := b0.cell 1 rfl
  have hsz := hid (sg_of h2)
  have hnz : ∀ M, NV M (.slice none 0 0) 0 := fun M => ⟨none, 0, [], rfl, Nat.le_refl _, Dig.nil, by simp, Sl.nil _ _ _ _, by simp [val, vl, nv]⟩
  go_enter Tryz.func327, Tryz.ntmps327
  go_wp2_with fail
  have c2 := b1.cell 0 rfl
  have c3 := b1.cell 1 rfl
  have f2 := b1.frozen 0
  have f3 := b1.frozen 1
  have hEd : Ext W W.drew := (ExtX.refl W).drew
  have hS : Hid (∀ W', Ext W.drew W' -> W'.cell? ⟨b, 0, none⟩ = some (.bool s) /\ W'.cell? ⟨b, 1, none⟩ = some (.slice ao l.length c) /\ W'.cell? ⟨b + 1, 0, none⟩ = some (.bool false) /\ W'.cell? ⟨b + 1, 1, none⟩ = some (.slice none 0 0) /\ W'.frozen? ⟨b + 1, 0, none⟩ = false /\ W'.frozen? ⟨b + 1, 1, none⟩ = false) :=
    hid fun W' h => ⟨(b0.ext0 (hEd.trans h)).cell 0 rfl, (b0.ext0 (hEd.trans h)).cell 1 rfl, (b1.ext0 (hEd.trans h)).cell 0 rfl, (b1.ext0 (hEd.trans h)).cell 1 rfl, (b1.ext0 (hEd.trans h)).frozen 0, (b1.ext0 (hEd.trans h)).frozen 1⟩
  go_region_held3 (fun w' => w'.cell? ⟨b, 0, none⟩ = some (.bool s) /\ w'.cell? ⟨b, 1, none⟩ = some (.slice ao l.length c))
    (first | exact ⟨(hS.out _ hE5).1, (hS.out _ hE5).2.1⟩ | exact ⟨(hS.out _ (hE5.trans hE6)).1, (hS.out _ (hE5.trans hE6)).2.1⟩ | go_keep)
    (first | (go_at_call 166; refine (nadd (X := hidB X b 2) (w := W.drew) hXW hu1 (hnz _)).mono ?_; rintro e w5 ⟨hE5, u5, rfl, hu5⟩) | (go_at_call 292; refine (isigned (hidB X b 2) w5 s u5 (z.natAbs + 0) (HX.ext (w := W.drew) hXW hE5) hu5).mono ?_; rintro e w6 ⟨hE6, u6, rfl, s6, a6, c6, l6, rfl, h61, h62, h63⟩; obtain ⟨g1, g2, g3, g4, g5, g6⟩ := hS.out w6 (hE5.trans hE6)))
  obtain ⟨r1, r2⟩ := (b1.ext0 ((hEd.trans hE5).trans hE6)).set2 (.bool s6) (.slice a6 l6.length c6)
  have h7 := (h63.mono (NatIn.mono _) (le_store r2 (by omega) (by omega))).mono (NatIn.mono _) le_unbox
  have hsg : sg s (z.natAbs + 0) = z := hsz.out
  rw [hsg] at h62
  have hEf : Ext w _ := ExtX.box (hE.trans ((hEd.trans hE5).trans hE6)) r2 (by omega)
  clear c0 c1 c2 c3 f2 f3 hS g1 g2 g3 g4 g5 g6
  go_wp2_with fail
  exact bodyPost_ret (results_box rfl rfl stInt r1 rfl) rfl ⟨hEf, _, rfl, s6, a6, c6, l6, rfl, h61, h62, h7⟩
end Go.Proofs.YtnnpfhoigmegcaaGreat
namespace Go.Proofs.YtnnpfhoigmegcaaGreat
open Go.RowKit Go.Rep Go.Lim
theorem rivalid (X : Nat -> Bool) (w : World) (s : Bool) (ao : Option Addr) (c : Nat) (l : List Nat) (hs : Sl (NatIn .u32) 1 (mk X w) ao l) (hl : l.length <= 549755813888) : Calls Tryz.prog 273 #[.agg #[.bool s, .slice ao l.length c]] w fun e w' => Ext w w' /\ e = .returned (.bool (validZ s l)) := by
  have hE : Ext w (w.alloc (.cells #[.bool s, .slice ao l.length c] 39)) := (ExtX.refl w).alloc _
  have hs1 := hs.mono (NatIn.mono _) (mk_ext hE)
  have hdef : Hid (validZ s l = (validL l && (decide (0 < l.length) || !s))) := hid rfl
  cases hv : validL l
  · have hf : Hid (validZ s l = false) := hid (by rw [hdef.out, hv]; rfl)
    have hv' := hid hv
    clear hv
    go_enter Tryz.func273, Tryz.ntmps273
    go_wp2_with fail
    refine (rvalid_any X _ _ _ _ hs1 (by omega)).mono ?_
    rintro e w' ⟨rfl, rfl⟩
    rw [hv'.out]
    go_wp2_with fail
    go_ret
    exact ⟨hE, ret_bool hf.out.symm⟩
  · have hf : Hid (validZ s l = (decide (0 < l.length) || !s)) := hid (by rw [hdef.out, hv]; rfl)
    have hv' := hid hv
    clear hv
    cases s
    · have hf2 : Hid (validZ false l = true) := hid (by rw [hf.out]; simp)
      clear hf hdef
      go_enter Tryz.func273, Tryz.ntmps273
      go_wp2_with fail
      refine (rvalid_any X _ _ _ _ hs1 (by omega)).mono ?_
      rintro e w' ⟨rfl, rfl⟩
      rw [hv'.out]
      go_wp2_with fail
      go_ret
      exact ⟨hE, ret_bool hf2.out.symm⟩
    · by_cases h0 : 0 < l.length
      · have hf2 : Hid (validZ true l = true) := hid (by rw [hf.out, decide_eq_true h0]; rfl)
        have hI : ((l.length : Int) == 0) = false := beqF (by omega)
        clear hf hdef
        go_enter Tryz.func273, Tryz.ntmps273
        go_wp2_with fail
        refine (rvalid_any X _ _ _ _ hs1 (by omega)).mono ?_
        rintro e w' ⟨rfl, rfl⟩
        rw [hv'.out]
        go_wp2_with fail
        go_ret
        exact ⟨hE, ret_bool hf2.out.symm⟩
      · have hf2 : Hid (validZ true l = false) := hid (by rw [hf.out, decide_eq_false h0]; rfl)
        obtain rfl : l = [] := List.eq_nil_of_length_eq_zero (by omega)
        clear h0 hf hdef
        simp only [List.length_nil] at hE hs1 |-
        go_enter Tryz.func273, Tryz.ntmps273
        go_wp2_with fail
        refine (rvalid_any X _ [] _ _ hs1 (by simp)).mono ?_
        rintro e w' ⟨rfl, rfl⟩
        rw [hv'.out]
        go_wp2_with fail
        go_ret
        exact ⟨hE, ret_bool hf2.out.symm⟩
set_option maxRecDepth 100000 in
theorem ritake (X : Nat -> Bool) (w : World) (u : Value) (z : Int) (hX : HX X w) (hu : ZV (mk X w) u z) : Calls Tryz.prog 194 #[u] w (ROut X w ZC z) := by
  obtain ⟨s, ao, c, l, rfl, h1, h2, h3, h4, rfl⟩ := hu
  obtain ⟨W, hW⟩ : ∃ W, (w.alloc (.cells #[.bool s, .slice ao l.length c] 39)).alloc (.cells #[.bool false, .slice none 0 0] 39) = W := ⟨_, rfl⟩
  have hE : Ext w W := by rw [<- hW]; exact ((ExtX.refl w).alloc _).alloc _
  have b0 : Bx W w.heap.size #[.bool s, .slice ao l.length c] 39 := by
    rw [<- hW]; exact (Bx.new w _ _).ext0 ((ExtX.refl _).alloc _)
  have b1 : Bx W (w.heap.size + 1) #[.bool false, .slice none 0 0] 39 := by
    rw [<- hW]; have := Bx.new (w.alloc (.cells #[.bool s, .slice ao l.length c] 39)) #[.bool false, .slice none 0 0] 39; simpa using this
  have hz : W.heap.size = w.heap.size + 2 := by rw [<- hW]; simp
  have hs1 : Sl (NatIn .u32) 1 (mk (hidB X w.heap.size 2) W) ao l := h4.mono (NatIn.mono _) (le_boxes hE)
  obtain ⟨b, hb⟩ : ∃ b, w.heap.size = b := ⟨_, rfl⟩
  have hbw : w.heap.size <= b := by omega
  have hXb : HX X w := hX
  rw [hb] at b0 b1 hz hs1
  have c0 := b0.cell 0 rfl
  have c1 := b0.cell 1 rfl
  cases hv : validZ s l
  · have hz0 := hid (zval_invalid hv)
    have hv' := hid hv
    clear hv
    go_enter Tryz.func194, Tryz.ntmps194
    go_wp2_with fail
    refine (rivalid (hidB X b 2) W s ao c l hs1 h3).mono ?_
    rintro e w1 ⟨hE1, rfl⟩
    rw [hv'.out]
    have b1' := b1.ext0 hE1
    clear c0 c1
    go_wp2_with ((with_reducible show wpList _ _ _ (⟨_, .store _ _ _, _, _, _, _⟩ :: _) _ _); refine st_storeBox stInt rfl rfl b1' rfl rfl (one2 _ _ _ _) ?_; intro w2 b2 hE2)
    exact bodyPost_ret (results_box rfl rfl stInt b2 rfl) rfl ⟨ExtX.box (hE.trans hE1) hE2 (by omega), _, rfl, by rw [hz0.out]; exact ZC.zero _⟩
  · have hv' := hid hv
    clear hv
    go_enter Tryz.func194, Tryz.ntmps194
    go_wp2_with fail
    refine (rivalid (hidB X b 2) W s ao c l hs1 h3).mono ?_
    rintro e w1 ⟨hE1, rfl⟩
    rw [hv'.out]
    have b0' := b0.ext0 hE1
    have b1' := b1.ext0 hE1
    have hX1 : HX (hidB X b 2) w1 := hX.boxes' (hE.trans hE1) (by have := b1'.lt; omega) (by have := b1'.lt; omega)
    have hcz := hid (CanZ.of_valid h2 hv'.out)
    have hnv : NV (mk (hidB X b 2) w1) (.slice ao l.length c) (nv l) := ⟨ao, c, l, rfl, h1, h2, by omega, hs1.mono (NatIn.mono _) (mk_ext hE1), by unfold val; rw [Canon.vl hcz.out.2]⟩
    have hXd : HX (hidB X b 2) w1.drew := hX1
    have hnd : NV (mk (hidB X b 2) w1.drew) (.slice ao l.length c) (nv l) := hnv
    have hEd : Ext w1 w1.drew := (ExtX.refl w1).drew
    have hB := hid (And.intro b0' b1')
    clear c0 c1
    have c0 := b0'.cell 0 rfl
    have c1 := b0'.cell 1 rfl
    go_wp2_with fail
    go_region_held3 (fun w' => w'.cell? ⟨b, 0, none⟩ = some (.bool s) /\ w'.cell? ⟨b, 1, none⟩ = some (.slice ao l.length c))
      (first | exact ⟨(hB.out.1.ext0 (hEd.trans hE5)).cell 0 rfl, (hB.out.1.ext0 (hEd.trans hE5)).cell 1 rfl⟩ | exact ⟨((hB.out.1.ext0 (hEd.trans hE5)).ext (bb2.set2 _ _).2 (ob_other (by omega))).cell 0 rfl, ((hB.out.1.ext0 (hEd.trans hE5)).ext (bb2.set2 _ _).2 (ob_other (by omega))).cell 1 rfl⟩ | go_keep)
      (first | (go_at_call 196; (with_reducible refine (rntake hXd hnd).mono ?_); rintro e w5 ⟨hE5, u5, rfl, a5, c5, l5, rfl, h51, h52, h53⟩; have bb2 := hB.out.2.ext0 (hEd.trans hE5); have g1 := bb2.cell 0 rfl; have g2 := bb2.cell 1 rfl; have g3 := bb2.frozen 0; have g4 := bb2.frozen 1))
    obtain ⟨r1, r2⟩ := bb2.set2 (.bool s) (.slice a5 l5.length c5)
    have h7 := (h53.mono (NatIn.mono _) (le_store r2 (by omega) (by omega))).mono (NatIn.mono _) le_unbox
    have hcz2 : CanZ s l5 (zval s l) := ⟨hcz.out.1, by rw [<- hcz.out.2.2.2]; exact h52⟩
    have hEf : Ext w _ := ExtX.box (hE.trans (hE1.trans (hEd.trans hE5))) r2 (by omega)
    clear g1 g2 g3 g4 c0 c1
    go_wp2_with fail
    exact bodyPost_ret (results_box rfl rfl stInt r1 rfl) rfl ⟨hEf, _, rfl, s, a5, c5, l5, rfl, h51, hcz2, h7⟩
theorem risigned (X : Nat -> Bool) (w : World) (s : Bool) (u : Value) (n : Nat) (_hX : HX X w) (hu : NC (mk X w) u n) : Calls Tryz.prog 200 #[.bool s, u] w (ROut X w ZC (sg s n)) := by
  obtain ⟨ao, c, l, rfl, h1, h2, h3⟩ := hu
  obtain ⟨W, hW⟩ : ∃ W, w.alloc (.cells #[.bool false, .slice none 0 0] 39) = W := ⟨_, rfl⟩
  have hE : Ext w W := by rw [<- hW]; exact (ExtX.refl w).alloc _
  have b0 : Bx W w.heap.size #[.bool false, .slice none 0 0] 39 := by rw [<- hW]; exact Bx.new w _ _
  have hs1 : Sl (NatIn .u32) 1 (mk (hidB X w.heap.size 1) W) ao l := h3.mono (NatIn.mono _) (le_boxes hE)
  obtain ⟨b, hb⟩ : ∃ b, w.heap.size = b := ⟨_, rfl⟩
  have hbw : w.heap.size <= b := by omega
  rw [hb] at b0 hs1
  have hcz : Hid (CanZ (s && decide (0 < l.length)) l (sg s n)) := hid (sg_canz h2)
  cases s
  · rw [Bool.false_and] at hcz
    go_enter Tryz.func200, Tryz.ntmps200
    go_wp2_with ((with_reducible show wpList _ _ _ (⟨_, .store _ _ _, _, _, _, _⟩ :: _) _ _); refine st_storeBox stInt rfl rfl b0 rfl rfl (one2 _ _ _ _) ?_; intro w2 b2 hE2)
    have hs3 := (hs1.mono (NatIn.mono _) (le_store hE2 (by omega) (by omega))).mono (NatIn.mono _) le_unbox
    exact bodyPost_ret (results_box rfl rfl stInt b2 rfl) rfl ⟨ExtX.box hE hE2 (by omega), _, rfl, _, ao, c, l, rfl, h1, hcz.out, hs3⟩
  · rw [Bool.true_and] at hcz
    by_cases h0 : 0 < l.length
    · rw [decide_eq_true h0] at hcz
      go_enter Tryz.func200, Tryz.ntmps200
      go_wp2_with ((with_reducible show wpList _ _ _ (⟨_, .store _ _ _, _, _, _, _⟩ :: _) _ _); refine st_storeBox stInt rfl rfl b0 rfl rfl (one2 _ _ _ _) ?_; intro w2 b2 hE2)
      have hs3 := (hs1.mono (NatIn.mono _) (le_store hE2 (by omega) (by omega))).mono (NatIn.mono _) le_unbox
      exact bodyPost_ret (results_box rfl rfl stInt b2 rfl) rfl ⟨ExtX.box hE hE2 (by omega), _, rfl, _, ao, c, l, rfl, h1, hcz.out, hs3⟩
    · rw [decide_eq_false h0] at hcz
      obtain rfl : l = [] := List.eq_nil_of_length_eq_zero (by omega)
      clear h0
      simp only [List.length_nil] at h1 hcz hs1 |-
      go_enter Tryz.func200, Tryz.ntmps200
      go_wp2_with ((with_reducible show wpList _ _ _ (⟨_, .store _ _ _, _, _, _, _⟩ :: _) _ _); refine st_storeBox stInt rfl rfl b0 rfl rfl (one2 _ _ _ _) ?_; intro w2 b2 hE2)
      have hs3 := (hs1.mono (NatIn.mono _) (le_store hE2 (by omega) (by omega))).mono (NatIn.mono _) le_unbox
      exact bodyPost_ret (results_box rfl rfl stInt b2 rfl) rfl ⟨ExtX.box hE hE2 (by omega), _, rfl, _, ao, c, [], rfl, h1, hcz.out, hs3⟩
end Go.Proofs.YtnnpfhoigmegcaaGreat
namespace Go.Proofs.YtnnpfhoigmegcaaGreat
open Go.RowKit Go.Rep Go.Lim
set_option maxRecDepth 100000 in
set_option maxHeartbeats 800000 in
theorem iadd (X : Nat -> Bool) (w : World) (u v : Value) (x y : Int) (hX : HX X w) (hu : ZV (mk X w) u x) (hv : ZV (mk X w) v y) : Calls Tryz.prog 264 #[u, v] w (ROut X w ZC (x + y)) := by
  have hlx := hid hu.lg
  have hly := hid hv.lg
  obtain ⟨s1, a1, c1, l1, rfl, hu'⟩ := id hu
  obtain ⟨s2, a2, c2, l2, rfl, hv'⟩ := id hv
  obtain ⟨W, hW, hE, b0, b1, b2, hz⟩ := boxes3 w #[.bool s1, .slice a1 l1.length c1] #[.bool s2, .slice a2 l2.length c2] #[.bool false, .slice none 0 0] 39 39 39
  have hXW : HX (hidB X w.heap.size 3) W := hX.boxes hz
  have hu1 := ZV.mono _ _ _ _ (le_boxes (nb := 3) hE) hu
  have hv1 := ZV.mono _ _ _ _ (le_boxes (nb := 3) hE) hv
  obtain ⟨b, hb⟩ : ∃ b, w.heap.size = b := ⟨_, rfl⟩
  have hbw : w.heap.size <= b := by omega
  rw [hb] at b0 b1 b2 hz hXW hu1 hv1
  have hEd : Ext W W.drew := (ExtX.refl W).drew
  have hXd : HX (hidB X b 3) W.drew := hXW
  have hud : ZV (mk (hidB X b 3) W.drew) (.agg #[.bool s1, .slice a1 l1.length c1]) x := hu1
  have hvd : ZV (mk (hidB X b 3) W.drew) (.agg #[.bool s2, .slice a2 l2.length c2]) y := hv1
  have k00 := b0.cell 0 rfl
  have k01 := b0.cell 1 rfl
  have k10 := b1.cell 0 rfl
  have k11 := b1.cell 1 rfl
  clear hu hv hu' hv'
  go_enter Tryz.func264, Tryz.ntmps264
  go_upto_region 1 with (fail)
  go_cut [] from 9 to 12 (fun wx => ∃ s3 a3 c3 l3 s4 a4 c4 l4, Bx wx b #[.bool s3, .slice a3 l3 c3] 39 /\ Bx wx (b + 1) #[.bool s4, .slice a4 l4 c4] 39 /\ Bx wx (b + 1 + 1) #[.bool false, .slice none 0 0] 39 /\ ZC (mk (hidB X b 3) wx) (.agg #[.bool s3, .slice a3 l3 c3]) x /\ ZC (mk (hidB X b 3) wx) (.agg #[.bool s4, .slice a4 l4 c4]) y /\ Ext w wx)
  case first =>
    go_region_with (first | (go_at_call 282; (with_reducible refine (ivalue (hidB X b 3) W.drew _ x hXd hud).mono ?_); rintro e w5 ⟨hE5, u5, rfl, s5, a5, c5, l5, rfl, h51, h52, h53⟩; have bb0 := b0.ext0 (hEd.trans hE5); have bb1 := b1.ext0 (hEd.trans hE5); have e00 := bb0.cell 0 rfl; have e01 := bb0.cell 1 rfl; have e10 := bb1.cell 0 rfl; have e11 := bb1.cell 1 rfl) | (go_at_call 282; (with_reducible refine (ivalue (hidB X b 3) w5 _ y (HX.ext hXd hE5) (mkx ZV.mono hvd hE5)).mono ?_); rintro e w6 ⟨hE6, u6, rfl, s6, a6, c6, l6, rfl, h61, h62, h63⟩; have bb2 := bb0.ext0 hE6; have bb3 := bb1.ext0 hE6; have g00 := bb2.cell 0 rfl; have g01 := bb2.cell 1 rfl; have g10 := bb3.cell 0 rfl; have g11 := bb3.cell 1 rfl; have fr0 := bb2.frozen 0; have fr1 := bb2.frozen 1; have fr2 := bb3.frozen 0; have fr3 := bb3.frozen 1))
    all_goals
      obtain ⟨wf, hwf, q0, q1, q2, q3, q4⟩ := two_stores (X := X) (nb := 3) bb2 bb3 (hE.trans ((hEd.trans hE5).trans hE6)) hbw (by omega) (.bool s5) (.slice a5 l5.length c5) (.bool s6) (.slice a6 l6.length c6)
      rw [hwf]
      have hfx : ZC (mk (hidB X b 3) wf) (.agg #[.bool s5, .slice a5 l5.length c5]) x := ⟨s5, a5, c5, l5, rfl, h51, h52, (h53.mono (NatIn.mono _) (mk_ext hE6)).mono (NatIn.mono _) q4⟩
      have hfy : ZC (mk (hidB X b 3) wf) (.agg #[.bool s6, .slice a6 l6.length c6]) y := ⟨s6, a6, c6, l6, rfl, h61, h62, h63.mono (NatIn.mono _) q4⟩
      have q5 := q2 (b + 1 + 1) _ _ (by omega) (by omega) ((b2.ext0 (hEd.trans hE5)).ext0 hE6)
      clear e00 e01 e10 e11 g00 g01 g10 g11 fr0 fr1 fr2 fr3 k00 k01 k10 k11 hwf
      go_wp2_with fail
      go_meet
      exact ⟨_, _, _, _, _, _, _, _, q0, q1, q5, hfx, hfy, q3⟩
  case rest =>
    clear k00 k01 k10 k11 b0 b1 b2 hu1 hv1 hud hvd hXd hEd hW
    obtain ⟨s3, a3, c3, n3, s4, a4, c4, n4, b0, b1, b2, hx, hy, hE1⟩ := hcut
    obtain ⟨_, _, _, l3, heq, h31, h32, h33⟩ := hx
    simp only [Value.agg.injEq, Array.mk.injEq, List.cons.injEq, Value.bool.injEq, Value.slice.injEq, and_true] at heq
    obtain ⟨rfl, rfl, rfl, rfl⟩ := heq
    obtain ⟨_, _, _, l4, heq, h41, h42, h43⟩ := hy
    simp only [Value.agg.injEq, Array.mk.injEq, List.cons.injEq, Value.bool.injEq, Value.slice.injEq, and_true] at heq
    obtain ⟨rfl, rfl, rfl, rfl⟩ := heq
    have hnx : NV (mk (hidB X b 3) wc) (.slice a3 l3.length c3) x.natAbs := NC.nv ⟨a3, c3, l3, rfl, h31, h32.2, h33⟩ (by have := hlx.out; omega)
    have hny : NV (mk (hidB X b 3) wc) (.slice a4 l4.length c4) y.natAbs := NC.nv ⟨a4, c4, l4, rfl, h41, h42.2, h43⟩ (by have := hly.out; omega)
    have hsx := hid h32.1
    have hsy := hid h42.1
    have hzz : w.heap.size + 3 <= wc.heap.size := by have := b2.lt; omega
    have hXc : HX (hidB X b 3) wc := hX.boxes' hE1 (by omega) hzz
    have hB := hid (And.intro b0 (And.intro b1 b2))
    have k00 := b0.cell 0 rfl
    have k01 := b0.cell 1 rfl
    have k10 := b1.cell 0 rfl
    have k11 := b1.cell 1 rfl
    have hlz := hid (sg_of h32)
    have hlw := hid (sg_of h42)
    have hEd : Ext wc wc.drew := (ExtX.refl wc).drew
    have hn1 : b + 1 ≠ b + 1 + 1 := by omega
    have hn2 : b ≠ b + 1 + 1 := by omega
    by_cases hss : s3 = s4
    · subst hss
      have hfin : Hid (sg s3 (x.natAbs + y.natAbs) = x + y) := hid (by
        have e1 := hlz.out; have e2 := hlw.out
        unfold sg at *
        cases s3 <;> simp at * <;> omega)
      go_wp2_with fail
      go_region_held3 (fun w' => w'.cell? ⟨b, 0, none⟩ = some (.bool s3) /\ w'.cell? ⟨b, 1, none⟩ = some (.slice a3 l3.length c3) /\ w'.cell? ⟨b + 1, 1, none⟩ = some (.slice a4 l4.length c4))
        (first | exact ⟨(hB.out.1.ext0 (hEd.trans hE5)).cell 0 rfl, (hB.out.1.ext0 (hEd.trans hE5)).cell 1 rfl, (hB.out.2.1.ext0 (hEd.trans hE5)).cell 1 rfl⟩ | exact ⟨(hB.out.1.ext0 (hEd.trans (hE5.trans hE6))).cell 0 rfl, (hB.out.1.ext0 (hEd.trans (hE5.trans hE6))).cell 1 rfl, (hB.out.2.1.ext0 (hEd.trans (hE5.trans hE6))).cell 1 rfl⟩ | exact ⟨((hB.out.1.ext0 (hEd.trans (hE5.trans hE6))).ext (bb2.set2 _ _).2 (ob_other (by omega))).cell 0 rfl, ((hB.out.1.ext0 (hEd.trans (hE5.trans hE6))).ext (bb2.set2 _ _).2 (ob_other (by omega))).cell 1 rfl, ((hB.out.2.1.ext0 (hEd.trans (hE5.trans hE6))).ext (bb2.set2 _ _).2 (ob_other (by omega))).cell 1 rfl⟩ | go_keep)
        (first | (go_at_call 166; refine (nadd (X := hidB X b 3) (w := wc.drew) hXc hnx hny).mono ?_; rintro e w5 ⟨hE5, u5, rfl, hu5⟩) | (go_at_call 292; refine (isigned (hidB X b 3) w5 s3 u5 (x.natAbs + y.natAbs) (HX.ext (w := wc.drew) hXc hE5) hu5).mono ?_; rintro e w6 ⟨hE6, u6, rfl, s6, a6, c6, l6, rfl, h61, h62, h63⟩; have bb2 := hB.out.2.2.ext0 (hEd.trans (hE5.trans hE6)); have g1 := bb2.cell 0 rfl; have g2 := bb2.cell 1 rfl; have g3 := bb2.frozen 0; have g4 := bb2.frozen 1))
      obtain ⟨r1, r2⟩ := bb2.set2 (.bool s6) (.slice a6 l6.length c6)
      have h7 := (h63.mono (NatIn.mono _) (le_store r2 (by omega) (by omega))).mono (NatIn.mono _) le_unbox
      rw [hfin.out] at h62
      have hEf : Ext w _ := ExtX.box (hE1.trans (hEd.trans (hE5.trans hE6))) r2 (by omega)
      clear g1 g2 g3 g4 k00 k01 k10 k11
      go_wp2_with fail
      exact bodyPost_ret (results_box rfl rfl stInt r1 rfl) rfl ⟨hEf, _, rfl, s6, a6, c6, l6, rfl, h61, h62, h7⟩
    · have hne : (s3 == s4) = false := by simpa using hss
      have hfin1 : Hid (y.natAbs <= x.natAbs -> sg s3 (x.natAbs - y.natAbs) = x + y) := hid (fun h => by
        have e1 := hlz.out; have e2 := hlw.out
        unfold sg at *
        cases s3 <;> cases s4 <;> simp at * <;> omega)
      have hfin2 : Hid (¬ y.natAbs <= x.natAbs -> sg s4 (y.natAbs - x.natAbs) = x + y) := hid (fun h => by
        have e1 := hlz.out; have e2 := hlw.out
        unfold sg at *
        cases s3 <;> cases s4 <;> simp at * <;> omega)
      clear hss
      go_wp2_with fail
      refine (nsub hXc hnx hny).mono ?_
      rintro e w5 ⟨hE5, u5, rfl, hu5⟩
      have hX5 := hXc.ext hE5
      have bb0 := hB.out.1.ext0 hE5
      have bb1 := hB.out.2.1.ext0 hE5
      have bb2 := hB.out.2.2.ext0 hE5
      clear k00 k01 k10 k11
      have k00 := bb0.cell 0 rfl
      have k01 := bb0.cell 1 rfl
      have k10 := bb1.cell 0 rfl
      have k11 := bb1.cell 1 rfl
      by_cases hle : y.natAbs <= x.natAbs
      · have hd : decide (y.natAbs <= x.natAbs) = true := decide_eq_true hle
        have hf := hid (hfin1.out hle)
        rw [hd]
        clear hd hle
        go_wp2_with fail
        refine (isigned (hidB X b 3) w5 s3 u5 _ hX5 hu5).mono ?_
        rintro e w6 ⟨hE6, u6, rfl, s6, a6, c6, l6, rfl, h61, h62, h63⟩
        have bb3 := bb2.ext0 hE6
        clear k00 k01 k10 k11
        go_wp2_with ((with_reducible show wpList _ _ _ (⟨_, .store _ _ _, _, _, _, _⟩ :: _) _ _); refine st_storeBox stInt rfl rfl bb3 rfl rfl (one2 _ _ _ _) ?_; intro w7 r1 r2)
        have h7 := (h63.mono (NatIn.mono _) (le_store r2 (by omega) (by omega))).mono (NatIn.mono _) le_unbox
        rw [hf.out] at h62
        exact bodyPost_ret (results_box rfl rfl stInt r1 rfl) rfl ⟨ExtX.box (hE1.trans (hE5.trans hE6)) r2 (by omega), _, rfl, s6, a6, c6, l6, rfl, h61, h62, h7⟩
      · have hd : decide (y.natAbs <= x.natAbs) = false := decide_eq_false hle
        have hf := hid (hfin2.out hle)
        rw [hd]
        clear hd hle
        go_wp2_with fail
        refine (nsub hX5 (mkx NV.mono hny hE5) (mkx NV.mono hnx hE5)).mono ?_
        rintro e w6 ⟨hE6, v5, rfl, hv5⟩
        have bc0 := bb0.ext0 hE6
        have bc1 := bb1.ext0 hE6
        have bc2 := bb2.ext0 hE6
        clear k00 k01 k10 k11
        have k10 := bc1.cell 0 rfl
        have k11 := bc1.cell 1 rfl
        go_wp2_with fail
        refine (isigned (hidB X b 3) w6 s4 v5 _ (hX5.ext hE6) hv5).mono ?_
        rintro e w7 ⟨hE7, u6, rfl, s6, a6, c6, l6, rfl, h61, h62, h63⟩
        have bb3 := bc2.ext0 hE7
        clear k10 k11
        go_wp2_with ((with_reducible show wpList _ _ _ (⟨_, .store _ _ _, _, _, _, _⟩ :: _) _ _); refine st_storeBox stInt rfl rfl bb3 rfl rfl (one2 _ _ _ _) ?_; intro w8 r1 r2)
        have h7 := (h63.mono (NatIn.mono _) (le_store r2 (by omega) (by omega))).mono (NatIn.mono _) le_unbox
        rw [hf.out] at h62
        exact bodyPost_ret (results_box rfl rfl stInt r1 rfl) rfl ⟨ExtX.box (hE1.trans (hE5.trans (hE6.trans hE7))) r2 (by omega), _, rfl, s6, a6, c6, l6, rfl, h61, h62, h7⟩
end Go.Proofs.YtnnpfhoigmegcaaGreat
namespace Go.Proofs.YtnnpfhoigmegcaaGreat
open Go.RowKit Go.Rep Go.Lim
set_option maxRecDepth 100000 in
set_option maxHeartbeats 800000 in
theorem riadd (X : Nat -> Bool) (w : World) (u v : Value) (x y : Int) (hX : HX X w) (hu : ZV (mk X w) u x) (hv : ZV (mk X w) v y) : Calls Tryz.prog 120 #[u, v] w (ROut X w ZC (x + y)) := by
  have hlx := hid hu.lg
  have hly := hid hv.lg
  obtain ⟨s1, a1, c1, l1, rfl, hu'⟩ := id hu
  obtain ⟨s2, a2, c2, l2, rfl, hv'⟩ := id hv
  obtain ⟨W, hW, hE, b0, b1, b2, hz⟩ := boxes3 w #[.bool s1, .slice a1 l1.length c1] #[.bool s2, .slice a2 l2.length c2] #[.bool false, .slice none 0 0] 39 39 39
  have hXW : HX (hidB X w.heap.size 3) W := hX.boxes hz
  have hu1 := ZV.mono _ _ _ _ (le_boxes (nb := 3) hE) hu
  have hv1 := ZV.mono _ _ _ _ (le_boxes (nb := 3) hE) hv
  obtain ⟨b, hb⟩ : ∃ b, w.heap.size = b := ⟨_, rfl⟩
  have hbw : w.heap.size <= b := by omega
  rw [hb] at b0 b1 b2 hz hXW hu1 hv1
  have hEd : Ext W W.drew := (ExtX.refl W).drew
  have hXd : HX (hidB X b 3) W.drew := hXW
  have hud : ZV (mk (hidB X b 3) W.drew) (.agg #[.bool s1, .slice a1 l1.length c1]) x := hu1
  have hvd : ZV (mk (hidB X b 3) W.drew) (.agg #[.bool s2, .slice a2 l2.length c2]) y := hv1
  have k00 := b0.cell 0 rfl
  have k01 := b0.cell 1 rfl
  have k10 := b1.cell 0 rfl
  have k11 := b1.cell 1 rfl
  clear hu hv hu' hv'
  go_enter Tryz.func120, Tryz.ntmps120
  go_upto_region 1 with (fail)
  go_cut [] from 9 to 12 (fun wx => ∃ s3 a3 c3 l3 s4 a4 c4 l4, Bx wx b #[.bool s3, .slice a3 l3 c3] 39 /\ Bx wx (b + 1) #[.bool s4, .slice a4 l4 c4] 39 /\ Bx wx (b + 1 + 1) #[.bool false, .slice none 0 0] 39 /\ ZC (mk (hidB X b 3) wx) (.agg #[.bool s3, .slice a3 l3 c3]) x /\ ZC (mk (hidB X b 3) wx) (.agg #[.bool s4, .slice a4 l4 c4]) y /\ Ext w wx)
  case first =>
    go_region_with (first | (go_at_call 194; (with_reducible refine (ritake (hidB X b 3) W.drew _ x hXd hud).mono ?_); rintro e w5 ⟨hE5, u5, rfl, s5, a5, c5, l5, rfl, h51, h52, h53⟩; have bb0 := b0.ext0 (hEd.trans hE5); have bb1 := b1.ext0 (hEd.trans hE5); have e00 := bb0.cell 0 rfl; have e01 := bb0.cell 1 rfl; have e10 := bb1.cell 0 rfl; have e11 := bb1.cell 1 rfl) | (go_at_call 194; (with_reducible refine (ritake (hidB X b 3) w5 _ y (HX.ext hXd hE5) (mkx ZV.mono hvd hE5)).mono ?_); rintro e w6 ⟨hE6, u6, rfl, s6, a6, c6, l6, rfl, h61, h62, h63⟩; have bb2 := bb0.ext0 hE6; have bb3 := bb1.ext0 hE6; have g00 := bb2.cell 0 rfl; have g01 := bb2.cell 1 rfl; have g10 := bb3.cell 0 rfl; have g11 := bb3.cell 1 rfl; have fr0 := bb2.frozen 0; have fr1 := bb2.frozen 1; have fr2 := bb3.frozen 0; have fr3 := bb3.frozen 1))
    all_goals
      obtain ⟨wf, hwf, q0, q1, q2, q3, q4⟩ := two_stores (X := X) (nb := 3) bb2 bb3 (hE.trans ((hEd.trans hE5).trans hE6)) hbw (by omega) (.bool s5) (.slice a5 l5.length c5) (.bool s6) (.slice a6 l6.length c6)
      rw [hwf]
      have hfx : ZC (mk (hidB X b 3) wf) (.agg #[.bool s5, .slice a5 l5.length c5]) x := ⟨s5, a5, c5, l5, rfl, h51, h52, (h53.mono (NatIn.mono _) (mk_ext hE6)).mono (NatIn.mono _) q4⟩
      have hfy : ZC (mk (hidB X b 3) wf) (.agg #[.bool s6, .slice a6 l6.length c6]) y := ⟨s6, a6, c6, l6, rfl, h61, h62, h63.mono (NatIn.mono _) q4⟩
      have q5 := q2 (b + 1 + 1) _ _ (by omega) (by omega) ((b2.ext0 (hEd.trans hE5)).ext0 hE6)
      clear e00 e01 e10 e11 g00 g01 g10 g11 fr0 fr1 fr2 fr3 k00 k01 k10 k11 hwf
      go_wp2_with fail
      go_meet
      exact ⟨_, _, _, _, _, _, _, _, q0, q1, q5, hfx, hfy, q3⟩
  case rest =>
    clear k00 k01 k10 k11 b0 b1 b2 hu1 hv1 hud hvd hXd hEd hW
    obtain ⟨s3, a3, c3, n3, s4, a4, c4, n4, b0, b1, b2, hx, hy, hE1⟩ := hcut
    obtain ⟨_, _, _, l3, heq, h31, h32, h33⟩ := hx
    simp only [Value.agg.injEq, Array.mk.injEq, List.cons.injEq, Value.bool.injEq, Value.slice.injEq, and_true] at heq
    obtain ⟨rfl, rfl, rfl, rfl⟩ := heq
    obtain ⟨_, _, _, l4, heq, h41, h42, h43⟩ := hy
    simp only [Value.agg.injEq, Array.mk.injEq, List.cons.injEq, Value.bool.injEq, Value.slice.injEq, and_true] at heq
    obtain ⟨rfl, rfl, rfl, rfl⟩ := heq
    have hnx : NV (mk (hidB X b 3) wc) (.slice a3 l3.length c3) x.natAbs := NC.nv ⟨a3, c3, l3, rfl, h31, h32.2, h33⟩ (by have := hlx.out; omega)
    have hny : NV (mk (hidB X b 3) wc) (.slice a4 l4.length c4) y.natAbs := NC.nv ⟨a4, c4, l4, rfl, h41, h42.2, h43⟩ (by have := hly.out; omega)
    have hsx := hid h32.1
    have hsy := hid h42.1
    have hzz : w.heap.size + 3 <= wc.heap.size := by have := b2.lt; omega
    have hXc : HX (hidB X b 3) wc := hX.boxes' hE1 (by omega) hzz
    have hB := hid (And.intro b0 (And.intro b1 b2))
    have k00 := b0.cell 0 rfl
    have k01 := b0.cell 1 rfl
    have k10 := b1.cell 0 rfl
    have k11 := b1.cell 1 rfl
    have hlz := hid (sg_of h32)
    have hlw := hid (sg_of h42)
    have hEd : Ext wc wc.drew := (ExtX.refl wc).drew
    have hn1 : b + 1 ≠ b + 1 + 1 := by omega
    have hn2 : b ≠ b + 1 + 1 := by omega
    by_cases hss : s3 = s4
    · subst hss
      have hfin : Hid (sg s3 (x.natAbs + y.natAbs) = x + y) := hid (by
        have e1 := hlz.out; have e2 := hlw.out
        unfold sg at *
        cases s3 <;> simp at * <;> omega)
      go_wp2_with fail
      go_region_held3 (fun w' => w'.cell? ⟨b, 0, none⟩ = some (.bool s3) /\ w'.cell? ⟨b, 1, none⟩ = some (.slice a3 l3.length c3) /\ w'.cell? ⟨b + 1, 1, none⟩ = some (.slice a4 l4.length c4))
        (first | exact ⟨(hB.out.1.ext0 (hEd.trans hE5)).cell 0 rfl, (hB.out.1.ext0 (hEd.trans hE5)).cell 1 rfl, (hB.out.2.1.ext0 (hEd.trans hE5)).cell 1 rfl⟩ | exact ⟨(hB.out.1.ext0 (hEd.trans (hE5.trans hE6))).cell 0 rfl, (hB.out.1.ext0 (hEd.trans (hE5.trans hE6))).cell 1 rfl, (hB.out.2.1.ext0 (hEd.trans (hE5.trans hE6))).cell 1 rfl⟩ | exact ⟨((hB.out.1.ext0 (hEd.trans (hE5.trans hE6))).ext (bb2.set2 _ _).2 (ob_other (by omega))).cell 0 rfl, ((hB.out.1.ext0 (hEd.trans (hE5.trans hE6))).ext (bb2.set2 _ _).2 (ob_other (by omega))).cell 1 rfl, ((hB.out.2.1.ext0 (hEd.trans (hE5.trans hE6))).ext (bb2.set2 _ _).2 (ob_other (by omega))).cell 1 rfl⟩ | go_keep)
        (first | (go_at_call 201; refine (rnadd (X := hidB X b 3) (w := wc.drew) hXc hnx hny).mono ?_; rintro e w5 ⟨hE5, u5, rfl, hu5⟩) | (go_at_call 200; refine (risigned (hidB X b 3) w5 s3 u5 (x.natAbs + y.natAbs) (HX.ext (w := wc.drew) hXc hE5) hu5).mono ?_; rintro e w6 ⟨hE6, u6, rfl, s6, a6, c6, l6, rfl, h61, h62, h63⟩; have bb2 := hB.out.2.2.ext0 (hEd.trans (hE5.trans hE6)); have g1 := bb2.cell 0 rfl; have g2 := bb2.cell 1 rfl; have g3 := bb2.frozen 0; have g4 := bb2.frozen 1))
      obtain ⟨r1, r2⟩ := bb2.set2 (.bool s6) (.slice a6 l6.length c6)
      have h7 := (h63.mono (NatIn.mono _) (le_store r2 (by omega) (by omega))).mono (NatIn.mono _) le_unbox
      rw [hfin.out] at h62
      have hEf : Ext w _ := ExtX.box (hE1.trans (hEd.trans (hE5.trans hE6))) r2 (by omega)
      clear g1 g2 g3 g4 k00 k01 k10 k11
      go_wp2_with fail
      exact bodyPost_ret (results_box rfl rfl stInt r1 rfl) rfl ⟨hEf, _, rfl, s6, a6, c6, l6, rfl, h61, h62, h7⟩
    · have hne : (s3 == s4) = false := by simpa using hss
      have hfin1 : Hid (y.natAbs <= x.natAbs -> sg s3 (x.natAbs - y.natAbs) = x + y) := hid (fun h => by
        have e1 := hlz.out; have e2 := hlw.out
        unfold sg at *
        cases s3 <;> cases s4 <;> simp at * <;> omega)
      have hfin2 : Hid (¬ y.natAbs <= x.natAbs -> sg s4 (y.natAbs - x.natAbs) = x + y) := hid (fun h => by
        have e1 := hlz.out; have e2 := hlw.out
        unfold sg at *
        cases s3 <;> cases s4 <;> simp at * <;> omega)
      clear hss
      go_wp2_with fail
      refine (rnsub _ _ _ _ _ _ hXc hnx hny).mono ?_
      rintro e w5 ⟨hE5, u5, rfl, hu5⟩
      have hX5 := hXc.ext hE5
      have bb0 := hB.out.1.ext0 hE5
      have bb1 := hB.out.2.1.ext0 hE5
      have bb2 := hB.out.2.2.ext0 hE5
      clear k00 k01 k10 k11
      have k00 := bb0.cell 0 rfl
      have k01 := bb0.cell 1 rfl
      have k10 := bb1.cell 0 rfl
      have k11 := bb1.cell 1 rfl
      by_cases hle : y.natAbs <= x.natAbs
      · have hd : decide (y.natAbs <= x.natAbs) = true := decide_eq_true hle
        have hf := hid (hfin1.out hle)
        rw [hd]
        clear hd hle
        go_wp2_with fail
        refine (risigned (hidB X b 3) w5 s3 u5 _ hX5 hu5).mono ?_
        rintro e w6 ⟨hE6, u6, rfl, s6, a6, c6, l6, rfl, h61, h62, h63⟩
        have bb3 := bb2.ext0 hE6
        clear k00 k01 k10 k11
        go_wp2_with ((with_reducible show wpList _ _ _ (⟨_, .store _ _ _, _, _, _, _⟩ :: _) _ _); refine st_storeBox stInt rfl rfl bb3 rfl rfl (one2 _ _ _ _) ?_; intro w7 r1 r2)
        have h7 := (h63.mono (NatIn.mono _) (le_store r2 (by omega) (by omega))).mono (NatIn.mono _) le_unbox
        rw [hf.out] at h62
        exact bodyPost_ret (results_box rfl rfl stInt r1 rfl) rfl ⟨ExtX.box (hE1.trans (hE5.trans hE6)) r2 (by omega), _, rfl, s6, a6, c6, l6, rfl, h61, h62, h7⟩
      · have hd : decide (y.natAbs <= x.natAbs) = false := decide_eq_false hle
        have hf := hid (hfin2.out hle)
        rw [hd]
        clear hd hle
        go_wp2_with fail
        refine (rnsub _ _ _ _ _ _ hX5 (mkx NV.mono hny hE5) (mkx NV.mono hnx hE5)).mono ?_
        rintro e w6 ⟨hE6, v5, rfl, hv5⟩
        have bc0 := bb0.ext0 hE6
        have bc1 := bb1.ext0 hE6
        have bc2 := bb2.ext0 hE6
        clear k00 k01 k10 k11
        have k10 := bc1.cell 0 rfl
        have k11 := bc1.cell 1 rfl
        go_wp2_with fail
        refine (risigned (hidB X b 3) w6 s4 v5 _ (hX5.ext hE6) hv5).mono ?_
        rintro e w7 ⟨hE7, u6, rfl, s6, a6, c6, l6, rfl, h61, h62, h63⟩
        have bb3 := bc2.ext0 hE7
        clear k10 k11
        go_wp2_with ((with_reducible show wpList _ _ _ (⟨_, .store _ _ _, _, _, _, _⟩ :: _) _ _); refine st_storeBox stInt rfl rfl bb3 rfl rfl (one2 _ _ _ _) ?_; intro w8 r1 r2)
        have h7 := (h63.mono (NatIn.mono _) (le_store r2 (by omega) (by omega))).mono (NatIn.mono _) le_unbox
        rw [hf.out] at h62
        exact bodyPost_ret (results_box rfl rfl stInt r1 rfl) rfl ⟨ExtX.box (hE1.trans (hE5.trans (hE6.trans hE7))) r2 (by omega), _, rfl, s6, a6, c6, l6, rfl, h61, h62, h7⟩
end Go.Proofs.YtnnpfhoigmegcaaGreat
namespace Go.Proofs.YtnnpfhoigmegcaaGreat
open Go.RowKit Go.Rep Go.Lim
set_option maxRecDepth 100000 in
set_option maxHeartbeats 800000 in
theorem imul (X : Nat -> Bool) (w : World) (u v : Value) (x y : Int) (hX : HX X w) (hu : ZV (mk X w) u x) (hv : ZV (mk X w) v y) : Calls Tryz.prog 232 #[u, v] w (ROut X w ZC (x * y)) := by
  have hlx := hid hu.lg
  have hly := hid hv.lg
  obtain ⟨s1, a1, c1, l1, rfl, hu'⟩ := id hu
  obtain ⟨s2, a2, c2, l2, rfl, hv'⟩ := id hv
  obtain ⟨W, hW, hE, b0, b1, b2, hz⟩ := boxes3 w #[.bool s1, .slice a1 l1.length c1] #[.bool s2, .slice a2 l2.length c2] #[.bool false, .slice none 0 0] 39 39 39
  have hXW : HX (hidB X w.heap.size 3) W := hX.boxes hz
  have hu1 := ZV.mono _ _ _ _ (le_boxes (nb := 3) hE) hu
  have hv1 := ZV.mono _ _ _ _ (le_boxes (nb := 3) hE) hv
  obtain ⟨b, hb⟩ : ∃ b, w.heap.size = b := ⟨_, rfl⟩
  have hbw : w.heap.size <= b := by omega
  rw [hb] at b0 b1 b2 hz hXW hu1 hv1
  have hEd : Ext W W.drew := (ExtX.refl W).drew
  have hXd : HX (hidB X b 3) W.drew := hXW
  have hud : ZV (mk (hidB X b 3) W.drew) (.agg #[.bool s1, .slice a1 l1.length c1]) x := hu1
  have hvd : ZV (mk (hidB X b 3) W.drew) (.agg #[.bool s2, .slice a2 l2.length c2]) y := hv1
  have k00 := b0.cell 0 rfl
  have k01 := b0.cell 1 rfl
  have k10 := b1.cell 0 rfl
  have k11 := b1.cell 1 rfl
  clear hu hv hu' hv'
  go_enter Tryz.func232, Tryz.ntmps232
  go_upto_region 1 with (fail)
  go_cut [] from 5 to 8 (fun wx => ∃ s3 a3 c3 l3 s4 a4 c4 l4, Bx wx b #[.bool s3, .slice a3 l3 c3] 39 /\ Bx wx (b + 1) #[.bool s4, .slice a4 l4 c4] 39 /\ Bx wx (b + 1 + 1) #[.bool false, .slice none 0 0] 39 /\ ZC (mk (hidB X b 3) wx) (.agg #[.bool s3, .slice a3 l3 c3]) x /\ ZC (mk (hidB X b 3) wx) (.agg #[.bool s4, .slice a4 l4 c4]) y /\ Ext w wx)
  case first =>
    go_region_with (first | (go_at_call 282; (with_reducible refine (ivalue (hidB X b 3) W.drew _ x hXd hud).mono ?_); rintro e w5 ⟨hE5, u5, rfl, s5, a5, c5, l5, rfl, h51, h52, h53⟩; have bb0 := b0.ext0 (hEd.trans hE5); have bb1 := b1.ext0 (hEd.trans hE5); have e00 := bb0.cell 0 rfl; have e01 := bb0.cell 1 rfl; have e10 := bb1.cell 0 rfl; have e11 := bb1.cell 1 rfl) | (go_at_call 282; (with_reducible refine (ivalue (hidB X b 3) w5 _ y (HX.ext hXd hE5) (mkx ZV.mono hvd hE5)).mono ?_); rintro e w6 ⟨hE6, u6, rfl, s6, a6, c6, l6, rfl, h61, h62, h63⟩; have bb2 := bb0.ext0 hE6; have bb3 := bb1.ext0 hE6; have g00 := bb2.cell 0 rfl; have g01 := bb2.cell 1 rfl; have g10 := bb3.cell 0 rfl; have g11 := bb3.cell 1 rfl; have fr0 := bb2.frozen 0; have fr1 := bb2.frozen 1; have fr2 := bb3.frozen 0; have fr3 := bb3.frozen 1))
    all_goals
      obtain ⟨wf, hwf, q0, q1, q2, q3, q4⟩ := two_stores (X := X) (nb := 3) bb2 bb3 (hE.trans ((hEd.trans hE5).trans hE6)) hbw (by omega) (.bool s5) (.slice a5 l5.length c5) (.bool s6) (.slice a6 l6.length c6)
      rw [hwf]
      have hfx : ZC (mk (hidB X b 3) wf) (.agg #[.bool s5, .slice a5 l5.length c5]) x := ⟨s5, a5, c5, l5, rfl, h51, h52, (h53.mono (NatIn.mono _) (mk_ext hE6)).mono (NatIn.mono _) q4⟩
      have hfy : ZC (mk (hidB X b 3) wf) (.agg #[.bool s6, .slice a6 l6.length c6]) y := ⟨s6, a6, c6, l6, rfl, h61, h62, h63.mono (NatIn.mono _) q4⟩
      have q5 := q2 (b + 1 + 1) _ _ (by omega) (by omega) ((b2.ext0 (hEd.trans hE5)).ext0 hE6)
      clear e00 e01 e10 e11 g00 g01 g10 g11 fr0 fr1 fr2 fr3 k00 k01 k10 k11 hwf
      go_wp2_with fail
      go_meet
      exact ⟨_, _, _, _, _, _, _, _, q0, q1, q5, hfx, hfy, q3⟩
  case rest =>
    clear k00 k01 k10 k11 b0 b1 b2 hu1 hv1 hud hvd hXd hEd hW
    obtain ⟨s3, a3, c3, n3, s4, a4, c4, n4, b0, b1, b2, hx, hy, hE1⟩ := hcut
    obtain ⟨_, _, _, l3, heq, h31, h32, h33⟩ := hx
    simp only [Value.agg.injEq, Array.mk.injEq, List.cons.injEq, Value.bool.injEq, Value.slice.injEq, and_true] at heq
    obtain ⟨rfl, rfl, rfl, rfl⟩ := heq
    obtain ⟨_, _, _, l4, heq, h41, h42, h43⟩ := hy
    simp only [Value.agg.injEq, Array.mk.injEq, List.cons.injEq, Value.bool.injEq, Value.slice.injEq, and_true] at heq
    obtain ⟨rfl, rfl, rfl, rfl⟩ := heq
    have hlz := hid (sg_of h32)
    have hlw := hid (sg_of h42)
    have hsx := hid h32.1
    have hsy := hid h42.1
    have hEd : Ext wc wc.drew := (ExtX.refl wc).drew
    have hnx : NV (mk (hidB X b 3) wc) (.slice a3 l3.length c3) x.natAbs := NC.nv ⟨a3, c3, l3, rfl, h31, h32.2, h33⟩ (by have := hlx.out; omega)
    have hny : NV (mk (hidB X b 3) wc) (.slice a4 l4.length c4) y.natAbs := NC.nv ⟨a4, c4, l4, rfl, h41, h42.2, h43⟩ (by have := hly.out; omega)
    have hzz : w.heap.size + 3 <= wc.heap.size := by have := b2.lt; omega
    have hXc : HX (hidB X b 3) wc := hX.boxes' hE1 (by omega) hzz
    have hB := hid (And.intro b0 (And.intro b1 b2))
    have k00 := b0.cell 0 rfl
    have k01 := b0.cell 1 rfl
    have k10 := b1.cell 0 rfl
    have k11 := b1.cell 1 rfl
    have hn1 : b + 1 ≠ b + 1 + 1 := by omega
    have hn2 : b ≠ b + 1 + 1 := by omega
    obtain ⟨sn, hsn⟩ : ∃ sn, (s3 != s4) = sn := ⟨_, rfl⟩
    have hfin : Hid (sg sn (x.natAbs * y.natAbs) = x * y) := hid (by
      have e1 := hlz.out; have e2 := hlw.out
      rw [<- hsn, <- e1, <- e2, sg_abs, sg_abs]
      unfold sg
      cases s3 <;> cases s4 <;> simp [Int.natCast_mul, Int.neg_mul, Int.mul_neg])
    have hsn' := hid hsn
    clear hsx hsy hlz hlw hsn h32 h42
    cases s3 <;> cases s4
    · obtain rfl : sn = false := hsn'.out.symm
      clear hsn'
      go_wp2_with fail
      go_region_held3 (fun w' => w'.cell? ⟨b, 0, none⟩ = some (.bool false) /\ w'.cell? ⟨b, 1, none⟩ = some (.slice a3 l3.length c3) /\ w'.cell? ⟨b + 1, 0, none⟩ = some (.bool false) /\ w'.cell? ⟨b + 1, 1, none⟩ = some (.slice a4 l4.length c4))
        (first | exact ⟨(hB.out.1.ext0 (hEd.trans hE5)).cell 0 rfl, (hB.out.1.ext0 (hEd.trans hE5)).cell 1 rfl, (hB.out.2.1.ext0 (hEd.trans hE5)).cell 0 rfl, (hB.out.2.1.ext0 (hEd.trans hE5)).cell 1 rfl⟩ | exact ⟨(hB.out.1.ext0 (hEd.trans (hE5.trans hE6))).cell 0 rfl, (hB.out.1.ext0 (hEd.trans (hE5.trans hE6))).cell 1 rfl, (hB.out.2.1.ext0 (hEd.trans (hE5.trans hE6))).cell 0 rfl, (hB.out.2.1.ext0 (hEd.trans (hE5.trans hE6))).cell 1 rfl⟩ | exact ⟨((hB.out.1.ext0 (hEd.trans (hE5.trans hE6))).ext (bb2.set2 _ _).2 (ob_other (by omega))).cell 0 rfl, ((hB.out.1.ext0 (hEd.trans (hE5.trans hE6))).ext (bb2.set2 _ _).2 (ob_other (by omega))).cell 1 rfl, ((hB.out.2.1.ext0 (hEd.trans (hE5.trans hE6))).ext (bb2.set2 _ _).2 (ob_other (by omega))).cell 0 rfl, ((hB.out.2.1.ext0 (hEd.trans (hE5.trans hE6))).ext (bb2.set2 _ _).2 (ob_other (by omega))).cell 1 rfl⟩ | go_keep)
        (first | (go_at_call 234; refine (nmul (X := hidB X b 3) (w := wc.drew) hXc hnx hny).mono ?_; rintro e w5 ⟨hE5, u5, rfl, hu5⟩) | (go_at_call 292; refine (isigned (hidB X b 3) w5 false u5 (x.natAbs * y.natAbs) (HX.ext (w := wc.drew) hXc hE5) hu5).mono ?_; rintro e w6 ⟨hE6, u6, rfl, s6, a6, c6, l6, rfl, h61, h62, h63⟩; have bb2 := hB.out.2.2.ext0 (hEd.trans (hE5.trans hE6)); have g1 := bb2.cell 0 rfl; have g2 := bb2.cell 1 rfl; have g3 := bb2.frozen 0; have g4 := bb2.frozen 1))
      obtain ⟨r1, r2⟩ := bb2.set2 (.bool s6) (.slice a6 l6.length c6)
      have h7 := (h63.mono (NatIn.mono _) (le_store r2 (by omega) (by omega))).mono (NatIn.mono _) le_unbox
      rw [hfin.out] at h62
      have hEf : Ext w _ := ExtX.box (hE1.trans (hEd.trans (hE5.trans hE6))) r2 (by omega)
      clear g1 g2 g3 g4 k00 k01 k10 k11
      go_wp2_with fail
      exact bodyPost_ret (results_box rfl rfl stInt r1 rfl) rfl ⟨hEf, _, rfl, s6, a6, c6, l6, rfl, h61, h62, h7⟩
    · obtain rfl : sn = true := hsn'.out.symm
      clear hsn'
      go_wp2_with fail
      go_region_held3 (fun w' => w'.cell? ⟨b, 0, none⟩ = some (.bool false) /\ w'.cell? ⟨b, 1, none⟩ = some (.slice a3 l3.length c3) /\ w'.cell? ⟨b + 1, 0, none⟩ = some (.bool true) /\ w'.cell? ⟨b + 1, 1, none⟩ = some (.slice a4 l4.length c4))
        (first | exact ⟨(hB.out.1.ext0 (hEd.trans hE5)).cell 0 rfl, (hB.out.1.ext0 (hEd.trans hE5)).cell 1 rfl, (hB.out.2.1.ext0 (hEd.trans hE5)).cell 0 rfl, (hB.out.2.1.ext0 (hEd.trans hE5)).cell 1 rfl⟩ | exact ⟨(hB.out.1.ext0 (hEd.trans (hE5.trans hE6))).cell 0 rfl, (hB.out.1.ext0 (hEd.trans (hE5.trans hE6))).cell 1 rfl, (hB.out.2.1.ext0 (hEd.trans (hE5.trans hE6))).cell 0 rfl, (hB.out.2.1.ext0 (hEd.trans (hE5.trans hE6))).cell 1 rfl⟩ | exact ⟨((hB.out.1.ext0 (hEd.trans (hE5.trans hE6))).ext (bb2.set2 _ _).2 (ob_other (by omega))).cell 0 rfl, ((hB.out.1.ext0 (hEd.trans (hE5.trans hE6))).ext (bb2.set2 _ _).2 (ob_other (by omega))).cell 1 rfl, ((hB.out.2.1.ext0 (hEd.trans (hE5.trans hE6))).ext (bb2.set2 _ _).2 (ob_other (by omega))).cell 0 rfl, ((hB.out.2.1.ext0 (hEd.trans (hE5.trans hE6))).ext (bb2.set2 _ _).2 (ob_other (by omega))).cell 1 rfl⟩ | go_keep)
        (first | (go_at_call 234; refine (nmul (X := hidB X b 3) (w := wc.drew) hXc hnx hny).mono ?_; rintro e w5 ⟨hE5, u5, rfl, hu5⟩) | (go_at_call 292; refine (isigned (hidB X b 3) w5 true u5 (x.natAbs * y.natAbs) (HX.ext (w := wc.drew) hXc hE5) hu5).mono ?_; rintro e w6 ⟨hE6, u6, rfl, s6, a6, c6, l6, rfl, h61, h62, h63⟩; have bb2 := hB.out.2.2.ext0 (hEd.trans (hE5.trans hE6)); have g1 := bb2.cell 0 rfl; have g2 := bb2.cell 1 rfl; have g3 := bb2.frozen 0; have g4 := bb2.frozen 1))
      obtain ⟨r1, r2⟩ := bb2.set2 (.bool s6) (.slice a6 l6.length c6)
      have h7 := (h63.mono (NatIn.mono _) (le_store r2 (by omega) (by omega))).mono (NatIn.mono _) le_unbox
      rw [hfin.out] at h62
      have hEf : Ext w _ := ExtX.box (hE1.trans (hEd.trans (hE5.trans hE6))) r2 (by omega)
      clear g1 g2 g3 g4 k00 k01 k10 k11
      go_wp2_with fail
      exact bodyPost_ret (results_box rfl rfl stInt r1 rfl) rfl ⟨hEf, _, rfl, s6, a6, c6, l6, rfl, h61, h62, h7⟩
    · obtain rfl : sn = true := hsn'.out.symm
      clear hsn'
      go_wp2_with fail
      go_region_held3 (fun w' => w'.cell? ⟨b, 0, none⟩ = some (.bool true) /\ w'.cell? ⟨b, 1, none⟩ = some (.slice a3 l3.length c3) /\ w'.cell? ⟨b + 1, 0, none⟩ = some (.bool false) /\ w'.cell? ⟨b + 1, 1, none⟩ = some (.slice a4 l4.length c4))
        (first | exact ⟨(hB.out.1.ext0 (hEd.trans hE5)).cell 0 rfl, (hB.out.1.ext0 (hEd.trans hE5)).cell 1 rfl, (hB.out.2.1.ext0 (hEd.trans hE5)).cell 0 rfl, (hB.out.2.1.ext0 (hEd.trans hE5)).cell 1 rfl⟩ | exact ⟨(hB.out.1.ext0 (hEd.trans (hE5.trans hE6))).cell 0 rfl, (hB.out.1.ext0 (hEd.trans (hE5.trans hE6))).cell 1 rfl, (hB.out.2.1.ext0 (hEd.trans (hE5.trans hE6))).cell 0 rfl, (hB.out.2.1.ext0 (hEd.trans (hE5.trans hE6))).cell 1 rfl⟩ | exact ⟨((hB.out.1.ext0 (hEd.trans (hE5.trans hE6))).ext (bb2.set2 _ _).2 (ob_other (by omega))).cell 0 rfl, ((hB.out.1.ext0 (hEd.trans (hE5.trans hE6))).ext (bb2.set2 _ _).2 (ob_other (by omega))).cell 1 rfl, ((hB.out.2.1.ext0 (hEd.trans (hE5.trans hE6))).ext (bb2.set2 _ _).2 (ob_other (by omega))).cell 0 rfl, ((hB.out.2.1.ext0 (hEd.trans (hE5.trans hE6))).ext (bb2.set2 _ _).2 (ob_other (by omega))).cell 1 rfl⟩ | go_keep)
        (first | (go_at_call 234; refine (nmul (X := hidB X b 3) (w := wc.drew) hXc hnx hny).mono ?_; rintro e w5 ⟨hE5, u5, rfl, hu5⟩) | (go_at_call 292; refine (isigned (hidB X b 3) w5 true u5 (x.natAbs * y.natAbs) (HX.ext (w := wc.drew) hXc hE5) hu5).mono ?_; rintro e w6 ⟨hE6, u6, rfl, s6, a6, c6, l6, rfl, h61, h62, h63⟩; have bb2 := hB.out.2.2.ext0 (hEd.trans (hE5.trans hE6)); have g1 := bb2.cell 0 rfl; have g2 := bb2.cell 1 rfl; have g3 := bb2.frozen 0; have g4 := bb2.frozen 1))
      obtain ⟨r1, r2⟩ := bb2.set2 (.bool s6) (.slice a6 l6.length c6)
      have h7 := (h63.mono (NatIn.mono _) (le_store r2 (by omega) (by omega))).mono (NatIn.mono _) le_unbox
      rw [hfin.out] at h62
      have hEf : Ext w _ := ExtX.box (hE1.trans (hEd.trans (hE5.trans hE6))) r2 (by omega)
      clear g1 g2 g3 g4 k00 k01 k10 k11
      go_wp2_with fail
      exact bodyPost_ret (results_box rfl rfl stInt r1 rfl) rfl ⟨hEf, _, rfl, s6, a6, c6, l6, rfl, h61, h62, h7⟩
    · obtain rfl : sn = false := hsn'.out.symm
      clear hsn'
      go_wp2_with fail
      go_region_held3 (fun w' => w'.cell? ⟨b, 0, none⟩ = some (.bool true) /\ w'.cell? ⟨b, 1, none⟩ = some (.slice a3 l3.length c3) /\ w'.cell? ⟨b + 1, 0, none⟩ = some (.bool true) /\ w'.cell? ⟨b + 1, 1, none⟩ = some (.slice a4 l4.length c4))
        (first | exact ⟨(hB.out.1.ext0 (hEd.trans hE5)).cell 0 rfl, (hB.out.1.ext0 (hEd.trans hE5)).cell 1 rfl, (hB.out.2.1.ext0 (hEd.trans hE5)).cell 0 rfl, (hB.out.2.1.ext0 (hEd.trans hE5)).cell 1 rfl⟩ | exact ⟨(hB.out.1.ext0 (hEd.trans (hE5.trans hE6))).cell 0 rfl, (hB.out.1.ext0 (hEd.trans (hE5.trans hE6))).cell 1 rfl, (hB.out.2.1.ext0 (hEd.trans (hE5.trans hE6))).cell 0 rfl, (hB.out.2.1.ext0 (hEd.trans (hE5.trans hE6))).cell 1 rfl⟩ | exact ⟨((hB.out.1.ext0 (hEd.trans (hE5.trans hE6))).ext (bb2.set2 _ _).2 (ob_other (by omega))).cell 0 rfl, ((hB.out.1.ext0 (hEd.trans (hE5.trans hE6))).ext (bb2.set2 _ _).2 (ob_other (by omega))).cell 1 rfl, ((hB.out.2.1.ext0 (hEd.trans (hE5.trans hE6))).ext (bb2.set2 _ _).2 (ob_other (by omega))).cell 0 rfl, ((hB.out.2.1.ext0 (hEd.trans (hE5.trans hE6))).ext (bb2.set2 _ _).2 (ob_other (by omega))).cell 1 rfl⟩ | go_keep)
        (first | (go_at_call 234; refine (nmul (X := hidB X b 3) (w := wc.drew) hXc hnx hny).mono ?_; rintro e w5 ⟨hE5, u5, rfl, hu5⟩) | (go_at_call 292; refine (isigned (hidB X b 3) w5 false u5 (x.natAbs * y.natAbs) (HX.ext (w := wc.drew) hXc hE5) hu5).mono ?_; rintro e w6 ⟨hE6, u6, rfl, s6, a6, c6, l6, rfl, h61, h62, h63⟩; have bb2 := hB.out.2.2.ext0 (hEd.trans (hE5.trans hE6)); have g1 := bb2.cell 0 rfl; have g2 := bb2.cell 1 rfl; have g3 := bb2.frozen 0; have g4 := bb2.frozen 1))
      obtain ⟨r1, r2⟩ := bb2.set2 (.bool s6) (.slice a6 l6.length c6)
      have h7 := (h63.mono (NatIn.mono _) (le_store r2 (by omega) (by omega))).mono (NatIn.mono _) le_unbox
      rw [hfin.out] at h62
      have hEf : Ext w _ := ExtX.box (hE1.trans (hEd.trans (hE5.trans hE6))) r2 (by omega)
      clear g1 g2 g3 g4 k00 k01 k10 k11
      go_wp2_with fail
      exact bodyPost_ret (results_box rfl rfl stInt r1 rfl) rfl ⟨hEf, _, rfl, s6, a6, c6, l6, rfl, h61, h62, h7⟩
theorem ineg (X : Nat -> Bool) (w : World) (u : Value) (x : Int) (hX : HX X w) (hu : ZV (mk X w) u x) : Calls Tryz.prog 296 #[u] w (ROut X w ZC (-x)) := by
  have hlx := hid hu.lg
  obtain ⟨s1, a1, c1, l1, rfl, hu'⟩ := id hu
  obtain ⟨W, hW, hE, b0, b1, hz⟩ := boxes2 w #[.bool s1, .slice a1 l1.length c1] #[.bool false, .slice none 0 0] 39 39
  have hXW : HX (hidB X w.heap.size 2) W := hX.boxes hz
  have hu1 := ZV.mono _ _ _ _ (le_boxes (nb := 2) hE) hu
  obtain ⟨b, hb⟩ : ∃ b, w.heap.size = b := ⟨_, rfl⟩
  have hbw : w.heap.size <= b := by omega
  rw [hb] at b0 b1 hz hXW hu1
  have k00 := b0.cell 0 rfl
  have k01 := b0.cell 1 rfl
  clear hu hu'
  go_enter Tryz.func296, Tryz.ntmps296
  go_wp2_with fail
  refine (ivalue (hidB X b 2) W _ x hXW hu1).mono ?_
  rintro e w5 ⟨hE5, u5, rfl, hu5⟩
  have hX5 := hXW.ext hE5
  clear k00 k01
  go_wp2_with fail
  refine (icopied (hidB X b 2) w5 _ x hX5 hu5 hlx.out).mono ?_
  rintro e w6 ⟨hE6, u6, rfl, s6, a6, c6, l6, rfl, h61, h62, h63⟩
  have bb0 := (b0.ext0 hE5).ext0 hE6
  have bb1 := (b1.ext0 hE5).ext0 hE6
  have hsz := hid (sg_of h62)
  go_wp2_with ((with_reducible show wpList _ _ _ (⟨_, .store _ _ _, _, _, _, _⟩ :: _) _ _); refine st_storeBox stInt rfl rfl bb0 rfl rfl (one2 _ _ _ _) ?_; intro w7 r1 r2; have k00 := r1.cell 0 rfl; have k01 := r1.cell 1 rfl)
  have hX7 := (hX5.ext hE6).ext r2
  have bb3 := bb1.ext r2 (ob_other (by omega))
  have hn : NC (mk (hidB X b 2) w7) (.slice a6 l6.length c6) x.natAbs := ⟨a6, c6, l6, rfl, h61, h62.2, h63.mono (NatIn.mono _) (le_store r2 (by omega) (by omega))⟩
  have hfin : Hid (sg (!s6) x.natAbs = -x) := hid (by
    have e1 := hsz.out
    rw [<- e1, sg_abs]; unfold sg; cases s6 <;> simp)
  refine (isigned (hidB X b 2) w7 (!s6) _ _ hX7 hn).mono ?_
  rintro e w8 ⟨hE8, u8, rfl, s8, a8, c8, l8, rfl, h81, h82, h83⟩
  rw [hfin.out] at h82
  have bb4 := bb3.ext0 hE8
  clear k00 k01
  go_wp2_with ((with_reducible show wpList _ _ _ (⟨_, .store _ _ _, _, _, _, _⟩ :: _) _ _); refine st_storeBox stInt rfl rfl bb4 rfl rfl (one2 _ _ _ _) ?_; intro w9 q1 q2)
  have h7 := (h83.mono (NatIn.mono _) (le_store q2 (by omega) (by omega))).mono (NatIn.mono _) le_unbox
  exact bodyPost_ret (results_box rfl rfl stInt q1 rfl) rfl ⟨ExtX.box ((ExtX.box (hE.trans (hE5.trans hE6)) r2 (by omega)).trans hE8) q2 (by omega), _, rfl, s8, a8, c8, l8, rfl, h81, h82, h7⟩
theorem isign (X : Nat -> Bool) (w : World) (u : Value) (x : Int) (hX : HX X w) (hu : ZV (mk X w) u x) : Calls Tryz.prog 206 #[u] w (IntOut w x.sign) := by
  obtain ⟨s1, a1, c1, l1, rfl, hu'⟩ := id hu
  obtain ⟨W, hW, hE, b0, hz⟩ := boxes1 w #[.bool s1, .slice a1 l1.length c1] 39
  have hXW : HX (hidB X w.heap.size 1) W := hX.boxes hz
  have hu1 := ZV.mono _ _ _ _ (le_boxes (nb := 1) hE) hu
  obtain ⟨b, hb⟩ : ∃ b, w.heap.size = b := ⟨_, rfl⟩
  have hbw : w.heap.size <= b := by omega
  rw [hb] at b0 hz hXW hu1
  have k00 := b0.cell 0 rfl
  have k01 := b0.cell 1 rfl
  clear hu hu'
  go_enter Tryz.func206, Tryz.ntmps206
  go_wp2_with fail
  refine (ivalue (hidB X b 1) W _ x hXW hu1).mono ?_
  rintro e w5 ⟨hE5, u5, rfl, s6, a6, c6, l6, rfl, h61, h62, h63⟩
  have bb0 := b0.ext0 hE5
  have hl0 := hid h62.len0
  have hs6 := hid h62.1
  clear k00 k01 h62
  by_cases h0 : l6.length = 0
  · have hx0 : x = 0 := hl0.out.1 h0
    subst hx0
    have hI : ((l6.length : Int) == 0) = true := beqT (by omega)
    have hl6 : (l6.length : Int) = 0 := by omega
    clear hl0 hs6 h0
    go_wp2_with ((with_reducible show wpList _ _ _ (⟨_, .store _ _ _, _, _, _, _⟩ :: _) _ _); refine st_storeBox stInt rfl rfl bb0 rfl rfl (one2 _ _ _ _) ?_; intro w7 r1 r2; have k00 := r1.cell 0 rfl; have k01 := r1.cell 1 rfl)
    have hEf := ExtX.box (hE.trans hE5) r2 (by omega)
    go_ret
    exact ⟨hEf, rfl⟩
  · have hI : ((l6.length : Int) == 0) = false := beqF (by omega)
    have hx0 : ¬ x = 0 := fun h => h0 (hl0.out.2 h)
    by_cases hneg : x < 0
    · have hf : Hid (x.sign = -1) := hid (Int.sign_eq_neg_one_of_neg hneg)
      obtain rfl : s6 = true := by rw [hs6.out]; exact decide_eq_true hneg
      clear hl0 h0 hx0 hneg hs6
      go_wp2_with ((with_reducible show wpList _ _ _ (⟨_, .store _ _ _, _, _, _, _⟩ :: _) _ _); refine st_storeBox stInt rfl rfl bb0 rfl rfl (one2 _ _ _ _) ?_; intro w7 r1 r2; have k00 := r1.cell 0 rfl; have k01 := r1.cell 1 rfl)
      have hEf := ExtX.box (hE.trans hE5) r2 (by omega)
      go_ret
      exact ⟨hEf, ret_int hf.out.symm⟩
    · have hf : Hid (x.sign = 1) := hid (Int.sign_eq_one_of_pos (by omega))
      obtain rfl : s6 = false := by rw [hs6.out]; exact decide_eq_false hneg
      clear hl0 h0 hx0 hneg hs6
      go_wp2_with ((with_reducible show wpList _ _ _ (⟨_, .store _ _ _, _, _, _, _⟩ :: _) _ _); refine st_storeBox stInt rfl rfl bb0 rfl rfl (one2 _ _ _ _) ?_; intro w7 r1 r2; have k00 := r1.cell 0 rfl; have k01 := r1.cell 1 rfl)
      have hEf := ExtX.box (hE.trans hE5) r2 (by omega)
      go_ret
      exact ⟨hEf, ret_int hf.out.symm⟩
end Go.Proofs.YtnnpfhoigmegcaaGreat
namespace Go.Proofs.YtnnpfhoigmegcaaGreat
open Go.RowKit Go.Rep Go.Lim
set_option maxRecDepth 100000 in
set_option maxHeartbeats 800000 in
theorem rimul (X : Nat -> Bool) (w : World) (u v : Value) (x y : Int) (hX : HX X w) (hu : ZV (mk X w) u x) (hv : ZV (mk X w) v y) (hbx : lg x.natAbs <= 274877906944) (hby : lg y.natAbs <= 274877906944) : Calls Tryz.prog 121 #[u, v] w (ROut X w ZC (x * y)) := by
  have hbx' := hid hbx
  have hby' := hid hby
  clear hbx hby
  have hlx := hid hu.lg
  have hly := hid hv.lg
  obtain ⟨s1, a1, c1, l1, rfl, hu'⟩ := id hu
  obtain ⟨s2, a2, c2, l2, rfl, hv'⟩ := id hv
  obtain ⟨W, hW, hE, b0, b1, b2, hz⟩ := boxes3 w #[.bool s1, .slice a1 l1.length c1] #[.bool s2, .slice a2 l2.length c2] #[.bool false, .slice none 0 0] 39 39 39
  have hXW : HX (hidB X w.heap.size 3) W := hX.boxes hz
  have hu1 := ZV.mono _ _ _ _ (le_boxes (nb := 3) hE) hu
  have hv1 := ZV.mono _ _ _ _ (le_boxes (nb := 3) hE) hv
  obtain ⟨b, hb⟩ : ∃ b, w.heap.size = b := ⟨_, rfl⟩
  have hbw : w.heap.size <= b := by omega
  rw [hb] at b0 b1 b2 hz hXW hu1 hv1
  have hEd : Ext W W.drew := (ExtX.refl W).drew
  have hXd : HX (hidB X b 3) W.drew := hXW
  have hud : ZV (mk (hidB X b 3) W.drew) (.agg #[.bool s1, .slice a1 l1.length c1]) x := hu1
  have hvd : ZV (mk (hidB X b 3) W.drew) (.agg #[.bool s2, .slice a2 l2.length c2]) y := hv1
  have k00 := b0.cell 0 rfl
  have k01 := b0.cell 1 rfl
  have k10 := b1.cell 0 rfl
  have k11 := b1.cell 1 rfl
  clear hu hv hu' hv'
  go_enter Tryz.func121, Tryz.ntmps121
  go_upto_region 1 with (fail)
  go_cut [] from 5 to 8 (fun wx => ∃ s3 a3 c3 l3 s4 a4 c4 l4, Bx wx b #[.bool s3, .slice a3 l3 c3] 39 /\ Bx wx (b + 1) #[.bool s4, .slice a4 l4 c4] 39 /\ Bx wx (b + 1 + 1) #[.bool false, .slice none 0 0] 39 /\ ZC (mk (hidB X b 3) wx) (.agg #[.bool s3, .slice a3 l3 c3]) x /\ ZC (mk (hidB X b 3) wx) (.agg #[.bool s4, .slice a4 l4 c4]) y /\ Ext w wx)
  case first =>
    go_region_with (first | (go_at_call 194; (with_reducible refine (ritake (hidB X b 3) W.drew _ x hXd hud).mono ?_); rintro e w5 ⟨hE5, u5, rfl, s5, a5, c5, l5, rfl, h51, h52, h53⟩; have bb0 := b0.ext0 (hEd.trans hE5); have bb1 := b1.ext0 (hEd.trans hE5); have e00 := bb0.cell 0 rfl; have e01 := bb0.cell 1 rfl; have e10 := bb1.cell 0 rfl; have e11 := bb1.cell 1 rfl) | (go_at_call 194; (with_reducible refine (ritake (hidB X b 3) w5 _ y (HX.ext hXd hE5) (mkx ZV.mono hvd hE5)).mono ?_); rintro e w6 ⟨hE6, u6, rfl, s6, a6, c6, l6, rfl, h61, h62, h63⟩; have bb2 := bb0.ext0 hE6; have bb3 := bb1.ext0 hE6; have g00 := bb2.cell 0 rfl; have g01 := bb2.cell 1 rfl; have g10 := bb3.cell 0 rfl; have g11 := bb3.cell 1 rfl; have fr0 := bb2.frozen 0; have fr1 := bb2.frozen 1; have fr2 := bb3.frozen 0; have fr3 := bb3.frozen 1))
    all_goals
      obtain ⟨wf, hwf, q0, q1, q2, q3, q4⟩ := two_stores (X := X) (nb := 3) bb2 bb3 (hE.trans ((hEd.trans hE5).trans hE6)) hbw (by omega) (.bool s5) (.slice a5 l5.length c5) (.bool s6) (.slice a6 l6.length c6)
      rw [hwf]
      have hfx : ZC (mk (hidB X b 3) wf) (.agg #[.bool s5, .slice a5 l5.length c5]) x := ⟨s5, a5, c5, l5, rfl, h51, h52, (h53.mono (NatIn.mono _) (mk_ext hE6)).mono (NatIn.mono _) q4⟩
      have hfy : ZC (mk (hidB X b 3) wf) (.agg #[.bool s6, .slice a6 l6.length c6]) y := ⟨s6, a6, c6, l6, rfl, h61, h62, h63.mono (NatIn.mono _) q4⟩
      have q5 := q2 (b + 1 + 1) _ _ (by omega) (by omega) ((b2.ext0 (hEd.trans hE5)).ext0 hE6)
      clear e00 e01 e10 e11 g00 g01 g10 g11 fr0 fr1 fr2 fr3 k00 k01 k10 k11 hwf
      go_wp2_with fail
      go_meet
      exact ⟨_, _, _, _, _, _, _, _, q0, q1, q5, hfx, hfy, q3⟩
  case rest =>
    clear k00 k01 k10 k11 b0 b1 b2 hu1 hv1 hud hvd hXd hEd hW
    obtain ⟨s3, a3, c3, n3, s4, a4, c4, n4, b0, b1, b2, hx, hy, hE1⟩ := hcut
    obtain ⟨_, _, _, l3, heq, h31, h32, h33⟩ := hx
    simp only [Value.agg.injEq, Array.mk.injEq, List.cons.injEq, Value.bool.injEq, Value.slice.injEq, and_true] at heq
    obtain ⟨rfl, rfl, rfl, rfl⟩ := heq
    obtain ⟨_, _, _, l4, heq, h41, h42, h43⟩ := hy
    simp only [Value.agg.injEq, Array.mk.injEq, List.cons.injEq, Value.bool.injEq, Value.slice.injEq, and_true] at heq
    obtain ⟨rfl, rfl, rfl, rfl⟩ := heq
    have hlz := hid (sg_of h32)
    have hlw := hid (sg_of h42)
    have hsx := hid h32.1
    have hsy := hid h42.1
    have hEd : Ext wc wc.drew := (ExtX.refl wc).drew
    have hnx : NV (mk (hidB X b 3) wc) (.slice a3 l3.length c3) x.natAbs := NC.nv ⟨a3, c3, l3, rfl, h31, h32.2, h33⟩ (by have := hlx.out; omega)
    have hny : NV (mk (hidB X b 3) wc) (.slice a4 l4.length c4) y.natAbs := NC.nv ⟨a4, c4, l4, rfl, h41, h42.2, h43⟩ (by have := hly.out; omega)
    have hzz : w.heap.size + 3 <= wc.heap.size := by have := b2.lt; omega
    have hXc : HX (hidB X b 3) wc := hX.boxes' hE1 (by omega) hzz
    have hB := hid (And.intro b0 (And.intro b1 b2))
    have k00 := b0.cell 0 rfl
    have k01 := b0.cell 1 rfl
    have k10 := b1.cell 0 rfl
    have k11 := b1.cell 1 rfl
    have hn1 : b + 1 ≠ b + 1 + 1 := by omega
    have hn2 : b ≠ b + 1 + 1 := by omega
    obtain ⟨sn, hsn⟩ : ∃ sn, (s3 != s4) = sn := ⟨_, rfl⟩
    have hfin : Hid (sg sn (x.natAbs * y.natAbs) = x * y) := hid (by
      have e1 := hlz.out; have e2 := hlw.out
      rw [<- hsn, <- e1, <- e2, sg_abs, sg_abs]
      unfold sg
      cases s3 <;> cases s4 <;> simp [Int.natCast_mul, Int.neg_mul, Int.mul_neg])
    have hsn' := hid hsn
    clear hsx hsy hlz hlw hsn h32 h42
    cases s3 <;> cases s4
    · obtain rfl : sn = false := hsn'.out.symm
      clear hsn'
      go_wp2_with fail
      go_region_held3 (fun w' => w'.cell? ⟨b, 0, none⟩ = some (.bool false) /\ w'.cell? ⟨b, 1, none⟩ = some (.slice a3 l3.length c3) /\ w'.cell? ⟨b + 1, 0, none⟩ = some (.bool false) /\ w'.cell? ⟨b + 1, 1, none⟩ = some (.slice a4 l4.length c4))
        (first | exact ⟨(hB.out.1.ext0 (hEd.trans hE5)).cell 0 rfl, (hB.out.1.ext0 (hEd.trans hE5)).cell 1 rfl, (hB.out.2.1.ext0 (hEd.trans hE5)).cell 0 rfl, (hB.out.2.1.ext0 (hEd.trans hE5)).cell 1 rfl⟩ | exact ⟨(hB.out.1.ext0 (hEd.trans (hE5.trans hE6))).cell 0 rfl, (hB.out.1.ext0 (hEd.trans (hE5.trans hE6))).cell 1 rfl, (hB.out.2.1.ext0 (hEd.trans (hE5.trans hE6))).cell 0 rfl, (hB.out.2.1.ext0 (hEd.trans (hE5.trans hE6))).cell 1 rfl⟩ | exact ⟨((hB.out.1.ext0 (hEd.trans (hE5.trans hE6))).ext (bb2.set2 _ _).2 (ob_other (by omega))).cell 0 rfl, ((hB.out.1.ext0 (hEd.trans (hE5.trans hE6))).ext (bb2.set2 _ _).2 (ob_other (by omega))).cell 1 rfl, ((hB.out.2.1.ext0 (hEd.trans (hE5.trans hE6))).ext (bb2.set2 _ _).2 (ob_other (by omega))).cell 0 rfl, ((hB.out.2.1.ext0 (hEd.trans (hE5.trans hE6))).ext (bb2.set2 _ _).2 (ob_other (by omega))).cell 1 rfl⟩ | go_keep)
        (first | (go_at_call 203; refine (rnmul (hidB X b 3) wc.drew _ _ _ _ hXc hnx hny hbx'.out hby'.out).mono ?_; rintro e w5 ⟨hE5, u5, rfl, hu5⟩) | (go_at_call 200; refine (risigned (hidB X b 3) w5 false u5 (x.natAbs * y.natAbs) (HX.ext (w := wc.drew) hXc hE5) hu5).mono ?_; rintro e w6 ⟨hE6, u6, rfl, s6, a6, c6, l6, rfl, h61, h62, h63⟩; have bb2 := hB.out.2.2.ext0 (hEd.trans (hE5.trans hE6)); have g1 := bb2.cell 0 rfl; have g2 := bb2.cell 1 rfl; have g3 := bb2.frozen 0; have g4 := bb2.frozen 1))
      obtain ⟨r1, r2⟩ := bb2.set2 (.bool s6) (.slice a6 l6.length c6)
      have h7 := (h63.mono (NatIn.mono _) (le_store r2 (by omega) (by omega))).mono (NatIn.mono _) le_unbox
      rw [hfin.out] at h62
      have hEf : Ext w _ := ExtX.box (hE1.trans (hEd.trans (hE5.trans hE6))) r2 (by omega)
      clear g1 g2 g3 g4 k00 k01 k10 k11
      go_wp2_with fail
      exact bodyPost_ret (results_box rfl rfl stInt r1 rfl) rfl ⟨hEf, _, rfl, s6, a6, c6, l6, rfl, h61, h62, h7⟩
    · obtain rfl : sn = true := hsn'.out.symm
      clear hsn'
      go_wp2_with fail
      go_region_held3 (fun w' => w'.cell? ⟨b, 0, none⟩ = some (.bool false) /\ w'.cell? ⟨b, 1, none⟩ = some (.slice a3 l3.length c3) /\ w'.cell? ⟨b + 1, 0, none⟩ = some (.bool true) /\ w'.cell? ⟨b + 1, 1, none⟩ = some (.slice a4 l4.length c4))
        (first | exact ⟨(hB.out.1.ext0 (hEd.trans hE5)).cell 0 rfl, (hB.out.1.ext0 (hEd.trans hE5)).cell 1 rfl, (hB.out.2.1.ext0 (hEd.trans hE5)).cell 0 rfl, (hB.out.2.1.ext0 (hEd.trans hE5)).cell 1 rfl⟩ | exact ⟨(hB.out.1.ext0 (hEd.trans (hE5.trans hE6))).cell 0 rfl, (hB.out.1.ext0 (hEd.trans (hE5.trans hE6))).cell 1 rfl, (hB.out.2.1.ext0 (hEd.trans (hE5.trans hE6))).cell 0 rfl, (hB.out.2.1.ext0 (hEd.trans (hE5.trans hE6))).cell 1 rfl⟩ | exact ⟨((hB.out.1.ext0 (hEd.trans (hE5.trans hE6))).ext (bb2.set2 _ _).2 (ob_other (by omega))).cell 0 rfl, ((hB.out.1.ext0 (hEd.trans (hE5.trans hE6))).ext (bb2.set2 _ _).2 (ob_other (by omega))).cell 1 rfl, ((hB.out.2.1.ext0 (hEd.trans (hE5.trans hE6))).ext (bb2.set2 _ _).2 (ob_other (by omega))).cell 0 rfl, ((hB.out.2.1.ext0 (hEd.trans (hE5.trans hE6))).ext (bb2.set2 _ _).2 (ob_other (by omega))).cell 1 rfl⟩ | go_keep)
        (first | (go_at_call 203; refine (rnmul (hidB X b 3) wc.drew _ _ _ _ hXc hnx hny hbx'.out hby'.out).mono ?_; rintro e w5 ⟨hE5, u5, rfl, hu5⟩) | (go_at_call 200; refine (risigned (hidB X b 3) w5 true u5 (x.natAbs * y.natAbs) (HX.ext (w := wc.drew) hXc hE5) hu5).mono ?_; rintro e w6 ⟨hE6, u6, rfl, s6, a6, c6, l6, rfl, h61, h62, h63⟩; have bb2 := hB.out.2.2.ext0 (hEd.trans (hE5.trans hE6)); have g1 := bb2.cell 0 rfl; have g2 := bb2.cell 1 rfl; have g3 := bb2.frozen 0; have g4 := bb2.frozen 1))
      obtain ⟨r1, r2⟩ := bb2.set2 (.bool s6) (.slice a6 l6.length c6)
      have h7 := (h63.mono (NatIn.mono _) (le_store r2 (by omega) (by omega))).mono (NatIn.mono _) le_unbox
      rw [hfin.out] at h62
      have hEf : Ext w _ := ExtX.box (hE1.trans (hEd.trans (hE5.trans hE6))) r2 (by omega)
      clear g1 g2 g3 g4 k00 k01 k10 k11
      go_wp2_with fail
      exact bodyPost_ret (results_box rfl rfl stInt r1 rfl) rfl ⟨hEf, _, rfl, s6, a6, c6, l6, rfl, h61, h62, h7⟩
    · obtain rfl : sn = true := hsn'.out.symm
      clear hsn'
      go_wp2_with fail
      go_region_held3 (fun w' => w'.cell? ⟨b, 0, none⟩ = some (.bool true) /\ w'.cell? ⟨b, 1, none⟩ = some (.slice a3 l3.length c3) /\ w'.cell? ⟨b + 1, 0, none⟩ = some (.bool false) /\ w'.cell? ⟨b + 1, 1, none⟩ = some (.slice a4 l4.length c4))
        (first | exact ⟨(hB.out.1.ext0 (hEd.trans hE5)).cell 0 rfl, (hB.out.1.ext0 (hEd.trans hE5)).cell 1 rfl, (hB.out.2.1.ext0 (hEd.trans hE5)).cell 0 rfl, (hB.out.2.1.ext0 (hEd.trans hE5)).cell 1 rfl⟩ | exact ⟨(hB.out.1.ext0 (hEd.trans (hE5.trans hE6))).cell 0 rfl, (hB.out.1.ext0 (hEd.trans (hE5.trans hE6))).cell 1 rfl, (hB.out.2.1.ext0 (hEd.trans (hE5.trans hE6))).cell 0 rfl, (hB.out.2.1.ext0 (hEd.trans (hE5.trans hE6))).cell 1 rfl⟩ | exact ⟨((hB.out.1.ext0 (hEd.trans (hE5.trans hE6))).ext (bb2.set2 _ _).2 (ob_other (by omega))).cell 0 rfl, ((hB.out.1.ext0 (hEd.trans (hE5.trans hE6))).ext (bb2.set2 _ _).2 (ob_other (by omega))).cell 1 rfl, ((hB.out.2.1.ext0 (hEd.trans (hE5.trans hE6))).ext (bb2.set2 _ _).2 (ob_other (by omega))).cell 0 rfl, ((hB.out.2.1.ext0 (hEd.trans (hE5.trans hE6))).ext (bb2.set2 _ _).2 (ob_other (by omega))).cell 1 rfl⟩ | go_keep)
        (first | (go_at_call 203; refine (rnmul (hidB X b 3) wc.drew _ _ _ _ hXc hnx hny hbx'.out hby'.out).mono ?_; rintro e w5 ⟨hE5, u5, rfl, hu5⟩) | (go_at_call 200; refine (risigned (hidB X b 3) w5 true u5 (x.natAbs * y.natAbs) (HX.ext (w := wc.drew) hXc hE5) hu5).mono ?_; rintro e w6 ⟨hE6, u6, rfl, s6, a6, c6, l6, rfl, h61, h62, h63⟩; have bb2 := hB.out.2.2.ext0 (hEd.trans (hE5.trans hE6)); have g1 := bb2.cell 0 rfl; have g2 := bb2.cell 1 rfl; have g3 := bb2.frozen 0; have g4 := bb2.frozen 1))
      obtain ⟨r1, r2⟩ := bb2.set2 (.bool s6) (.slice a6 l6.length c6)
      have h7 := (h63.mono (NatIn.mono _) (le_store r2 (by omega) (by omega))).mono (NatIn.mono _) le_unbox
      rw [hfin.out] at h62
      have hEf : Ext w _ := ExtX.box (hE1.trans (hEd.trans (hE5.trans hE6))) r2 (by omega)
      clear g1 g2 g3 g4 k00 k01 k10 k11
      go_wp2_with fail
      exact bodyPost_ret (results_box rfl rfl stInt r1 rfl) rfl ⟨hEf, _, rfl, s6, a6, c6, l6, rfl, h61, h62, h7⟩
    · obtain rfl : sn = false := hsn'.out.symm
      clear hsn'
      go_wp2_with fail
      go_region_held3 (fun w' => w'.cell? ⟨b, 0, none⟩ = some (.bool true) /\ w'.cell? ⟨b, 1, none⟩ = some (.slice a3 l3.length c3) /\ w'.cell? ⟨b + 1, 0, none⟩ = some (.bool true) /\ w'.cell? ⟨b + 1, 1, none⟩ = some (.slice a4 l4.length c4))
        (first | exact ⟨(hB.out.1.ext0 (hEd.trans hE5)).cell 0 rfl, (hB.out.1.ext0 (hEd.trans hE5)).cell 1 rfl, (hB.out.2.1.ext0 (hEd.trans hE5)).cell 0 rfl, (hB.out.2.1.ext0 (hEd.trans hE5)).cell 1 rfl⟩ | exact ⟨(hB.out.1.ext0 (hEd.trans (hE5.trans hE6))).cell 0 rfl, (hB.out.1.ext0 (hEd.trans (hE5.trans hE6))).cell 1 rfl, (hB.out.2.1.ext0 (hEd.trans (hE5.trans hE6))).cell 0 rfl, (hB.out.2.1.ext0 (hEd.trans (hE5.trans hE6))).cell 1 rfl⟩ | exact ⟨((hB.out.1.ext0 (hEd.trans (hE5.trans hE6))).ext (bb2.set2 _ _).2 (ob_other (by omega))).cell 0 rfl, ((hB.out.1.ext0 (hEd.trans (hE5.trans hE6))).ext (bb2.set2 _ _).2 (ob_other (by omega))).cell 1 rfl, ((hB.out.2.1.ext0 (hEd.trans (hE5.trans hE6))).ext (bb2.set2 _ _).2 (ob_other (by omega))).cell 0 rfl, ((hB.out.2.1.ext0 (hEd.trans (hE5.trans hE6))).ext (bb2.set2 _ _).2 (ob_other (by omega))).cell 1 rfl⟩ | go_keep)
        (first | (go_at_call 203; refine (rnmul (hidB X b 3) wc.drew _ _ _ _ hXc hnx hny hbx'.out hby'.out).mono ?_; rintro e w5 ⟨hE5, u5, rfl, hu5⟩) | (go_at_call 200; refine (risigned (hidB X b 3) w5 false u5 (x.natAbs * y.natAbs) (HX.ext (w := wc.drew) hXc hE5) hu5).mono ?_; rintro e w6 ⟨hE6, u6, rfl, s6, a6, c6, l6, rfl, h61, h62, h63⟩; have bb2 := hB.out.2.2.ext0 (hEd.trans (hE5.trans hE6)); have g1 := bb2.cell 0 rfl; have g2 := bb2.cell 1 rfl; have g3 := bb2.frozen 0; have g4 := bb2.frozen 1))
      obtain ⟨r1, r2⟩ := bb2.set2 (.bool s6) (.slice a6 l6.length c6)
      have h7 := (h63.mono (NatIn.mono _) (le_store r2 (by omega) (by omega))).mono (NatIn.mono _) le_unbox
      rw [hfin.out] at h62
      have hEf : Ext w _ := ExtX.box (hE1.trans (hEd.trans (hE5.trans hE6))) r2 (by omega)
      clear g1 g2 g3 g4 k00 k01 k10 k11
      go_wp2_with fail
      exact bodyPost_ret (results_box rfl rfl stInt r1 rfl) rfl ⟨hEf, _, rfl, s6, a6, c6, l6, rfl, h61, h62, h7⟩
end Go.Proofs.YtnnpfhoigmegcaaGreat
namespace Go.Proofs.YtnnpfhoigmegcaaGreat
open Go.RowKit Go.Rep Go.Lim
def BOut (w : World) (b : Bool) (e : Ending) (w' : World) : Prop := Ext w w' /\ e = .returned (.bool b)
theorem rineg (X : Nat -> Bool) (w : World) (u : Value) (x : Int) (hX : HX X w) (hu : ZV (mk X w) u x) : Calls Tryz.prog 129 #[u] w (ROut X w ZC (-x)) := by
  obtain ⟨s1, a1, c1, l1, rfl, hu'⟩ := id hu
  obtain ⟨W, hW, hE, b0, b1, hz⟩ := boxes2 w #[.bool s1, .slice a1 l1.length c1] #[.bool false, .slice none 0 0] 39 39
  have hXW : HX (hidB X w.heap.size 2) W := hX.boxes hz
  have hu1 := ZV.mono _ _ _ _ (le_boxes (nb := 2) hE) hu
  obtain ⟨b, hb⟩ : ∃ b, w.heap.size = b := ⟨_, rfl⟩
  have hbw : w.heap.size <= b := by omega
  rw [hb] at b0 b1 hz hXW hu1
  have k00 := b0.cell 0 rfl
  have k01 := b0.cell 1 rfl
  clear hu hu'
  go_enter Tryz.func129, Tryz.ntmps129
  go_wp2_with fail
  refine (ritake (hidB X b 2) W _ x hXW hu1).mono ?_
  rintro e w6 ⟨hE6, u6, rfl, s6, a6, c6, l6, rfl, h61, h62, h63⟩
  have hX6 := hXW.ext hE6
  have bb0 := b0.ext0 hE6
  have bb1 := b1.ext0 hE6
  have hsz := hid (sg_of h62)
  clear k00 k01
  go_wp2_with ((with_reducible show wpList _ _ _ (⟨_, .store _ _ _, _, _, _, _⟩ :: _) _ _); refine st_storeBox stInt rfl rfl bb0 rfl rfl (one2 _ _ _ _) ?_; intro w7 r1 r2; have k00 := r1.cell 0 rfl; have k01 := r1.cell 1 rfl)
  have hX7 := hX6.ext r2
  have bb3 := bb1.ext r2 (ob_other (by omega))
  have hn : NC (mk (hidB X b 2) w7) (.slice a6 l6.length c6) x.natAbs := ⟨a6, c6, l6, rfl, h61, h62.2, h63.mono (NatIn.mono _) (le_store r2 (by omega) (by omega))⟩
  have hfin : Hid (sg (!s6) x.natAbs = -x) := hid (by
    have e1 := hsz.out
    rw [<- e1, sg_abs]; unfold sg; cases s6 <;> simp)
  refine (risigned (hidB X b 2) w7 (!s6) _ _ hX7 hn).mono ?_
  rintro e w8 ⟨hE8, u8, rfl, s8, a8, c8, l8, rfl, h81, h82, h83⟩
  rw [hfin.out] at h82
  have bb4 := bb3.ext0 hE8
  clear k00 k01
  go_wp2_with ((with_reducible show wpList _ _ _ (⟨_, .store _ _ _, _, _, _, _⟩ :: _) _ _); refine st_storeBox stInt rfl rfl bb4 rfl rfl (one2 _ _ _ _) ?_; intro w9 q1 q2)
  have h7 := (h83.mono (NatIn.mono _) (le_store q2 (by omega) (by omega))).mono (NatIn.mono _) le_unbox
  exact bodyPost_ret (results_box rfl rfl stInt q1 rfl) rfl ⟨ExtX.box ((ExtX.box (hE.trans hE6) r2 (by omega)).trans hE8) q2 (by omega), _, rfl, s8, a8, c8, l8, rfl, h81, h82, h7⟩
theorem risign (X : Nat -> Bool) (w : World) (u : Value) (x : Int) (hX : HX X w) (hu : ZV (mk X w) u x) : Calls Tryz.prog 117 #[u] w (IntOut w x.sign) := by
  obtain ⟨s1, a1, c1, l1, rfl, hu'⟩ := id hu
  obtain ⟨W, hW, hE, b0, hz⟩ := boxes1 w #[.bool s1, .slice a1 l1.length c1] 39
  have hXW : HX (hidB X w.heap.size 1) W := hX.boxes hz
  have hu1 := ZV.mono _ _ _ _ (le_boxes (nb := 1) hE) hu
  obtain ⟨b, hb⟩ : ∃ b, w.heap.size = b := ⟨_, rfl⟩
  have hbw : w.heap.size <= b := by omega
  rw [hb] at b0 hz hXW hu1
  have k00 := b0.cell 0 rfl
  have k01 := b0.cell 1 rfl
  clear hu hu'
  go_enter Tryz.func117, Tryz.ntmps117
  go_wp2_with fail
  refine (ritake (hidB X b 1) W _ x hXW hu1).mono ?_
  rintro e w5 ⟨hE5, u5, rfl, s6, a6, c6, l6, rfl, h61, h62, h63⟩
  have bb0 := b0.ext0 hE5
  have hl0 := hid h62.len0
  have hs6 := hid h62.1
  clear k00 k01 h62
  by_cases hneg : x < 0
  · have hf : Hid (x.sign = -1) := hid (Int.sign_eq_neg_one_of_neg hneg)
    obtain rfl : s6 = true := by rw [hs6.out]; exact decide_eq_true hneg
    clear hl0 hneg hs6
    go_wp2_with ((with_reducible show wpList _ _ _ (⟨_, .store _ _ _, _, _, _, _⟩ :: _) _ _); refine st_storeBox stInt rfl rfl bb0 rfl rfl (one2 _ _ _ _) ?_; intro w7 r1 r2; have k00 := r1.cell 0 rfl; have k01 := r1.cell 1 rfl)
    have hEf := ExtX.box (hE.trans hE5) r2 (by omega)
    go_ret
    exact ⟨hEf, ret_int hf.out.symm⟩
  · obtain rfl : s6 = false := by rw [hs6.out]; exact decide_eq_false hneg
    by_cases h0 : l6.length = 0
    · have hx0 : x = 0 := hl0.out.1 h0
      subst hx0
      obtain rfl : l6 = [] := List.eq_nil_of_length_eq_zero h0
      clear hl0 hs6 h0 hneg
      simp only [List.length_nil] at h61 |-
      go_wp2_with ((with_reducible show wpList _ _ _ (⟨_, .store _ _ _, _, _, _, _⟩ :: _) _ _); refine st_storeBox stInt rfl rfl bb0 rfl rfl (one2 _ _ _ _) ?_; intro w7 r1 r2; have k00 := r1.cell 0 rfl; have k01 := r1.cell 1 rfl)
      have hEf := ExtX.box (hE.trans hE5) r2 (by omega)
      go_ret
      exact ⟨hEf, rfl⟩
    · have hx0 : ¬ x = 0 := fun h => h0 (hl0.out.2 h)
      have hp : 0 < l6.length := by omega
      have hf : Hid (x.sign = 1) := hid (Int.sign_eq_one_of_pos (by omega))
      clear hl0 hx0 hneg hs6 h0
      go_wp2_with ((with_reducible show wpList _ _ _ (⟨_, .store _ _ _, _, _, _, _⟩ :: _) _ _); refine st_storeBox stInt rfl rfl bb0 rfl rfl (one2 _ _ _ _) ?_; intro w7 r1 r2; have k00 := r1.cell 0 rfl; have k01 := r1.cell 1 rfl)
      have hEf := ExtX.box (hE.trans hE5) r2 (by omega)
      go_ret
      exact ⟨hEf, ret_int hf.out.symm⟩
theorem rifrom (X : Nat -> Bool) (w : World) (v : Int) (hX : HX X w) (h1 : -9223372036854775808 <= v) (h2 : v <= 9223372036854775807) : Calls Tryz.prog 127 #[.int .i64 v] w (ROut X w ZC v) := by
  obtain ⟨W, hW, hE, b0, hz⟩ := boxes1 w #[.bool false, .slice none 0 0] 39
  have hXW : HX (hidB X w.heap.size 1) W := hX.boxes hz
  obtain ⟨b, hb⟩ : ∃ b, w.heap.size = b := ⟨_, rfl⟩
  have hbw : w.heap.size <= b := by omega
  rw [hb] at b0 hz hXW
  by_cases hv : v < 0
  · obtain ⟨n, hn⟩ : ∃ n : Nat, -(v + 1) = n := Int.eq_ofNat_of_zero_le (by omega)
    have hnn : Hid (sg true (n + 1) = v) := hid (by unfold sg; simp; omega)
    have hvv : Hid (-(v + 1) = (n : Int)) := hid hn
    have hnl : Hid (n < 18446744073709551616) := hid (by omega)
    have hnI : (n : Int) <= 9223372036854775807 := by omega
    clear hn
    go_enter Tryz.func127, Tryz.ntmps127
    go_wp2_with fail
    rw [hvv.out]
    refine (rnfrom (X := hidB X b 1) hXW hnl.out).mono ?_
    rintro e w5 ⟨hE5, u5, rfl, hu5⟩
    have hX5 := hXW.ext hE5
    go_wp2_with fail
    have hone := NC.lit hX5 1 110 (by omega) (by omega)
    have hE6 : Ext w5 (w5.alloc (.cells #[.int .u32 ((1 : Nat) : Int)] 110)) := (ExtX.refl w5).alloc _
    have hl1 : lg n <= 1099511627776 := by
      have : n < B ^ 2 := by rw [B_eq]; omega
      have := lg_le.2 this; omega
    refine (rnadd (hX5.ext hE6) (mkx NV.mono (hu5.nv hl1) hE6) (hone.nv (by rw [lg_one]; decide))).mono ?_
    rintro e w7 ⟨hE7, u7, rfl, hu7⟩
    have hE57 := hE5.trans (hE6.trans hE7)
    have hX7 := hXW.ext hE57
    clear hE5 hE6 hE7 hX5 hone hu5 hl1
    go_wp2_with fail
    refine (risigned (hidB X b 1) w7 true u7 _ hX7 hu7).mono ?_
    rintro e w8 ⟨hE8, u6, rfl, s6, a6, c6, l6, rfl, h61, h62, h63⟩
    rw [hnn.out] at h62
    have bb0 := (b0.ext0 hE57).ext0 hE8
    go_wp2_with ((with_reducible show wpList _ _ _ (⟨_, .store _ _ _, _, _, _, _⟩ :: _) _ _); refine st_storeBox stInt rfl rfl bb0 rfl rfl (one2 _ _ _ _) ?_; intro w9 r1 r2)
    have h7 := (h63.mono (NatIn.mono _) (le_store r2 (by omega) (by omega))).mono (NatIn.mono _) le_unbox
    exact bodyPost_ret (results_box rfl rfl stInt r1 rfl) rfl ⟨ExtX.box (hE.trans (hE57.trans hE8)) r2 (by omega), _, rfl, s6, a6, c6, l6, rfl, h61, h62, h7⟩
  · obtain ⟨n, rfl⟩ := Int.eq_ofNat_of_zero_le (show 0 <= v by omega)
    have hn : Hid (sg false n = (n : Int)) := hid rfl
    have hlt2 : Hid (n < 18446744073709551616) := hid (by omega)
    go_enter Tryz.func127, Tryz.ntmps127
    go_wp2_with fail
    refine (rnfrom (X := hidB X b 1) hXW hlt2.out).mono ?_
    rintro e w5 ⟨hE5, u5, rfl, hu5⟩
    go_wp2_with fail
    refine (risigned (hidB X b 1) w5 false u5 n (hXW.ext hE5) hu5).mono ?_
    rintro e w6 ⟨hE6, u6, rfl, s6, a6, c6, l6, rfl, h61, h62, h63⟩
    have bb0 := (b0.ext0 hE5).ext0 hE6
    go_wp2_with ((with_reducible show wpList _ _ _ (⟨_, .store _ _ _, _, _, _, _⟩ :: _) _ _); refine st_storeBox stInt rfl rfl bb0 rfl rfl (one2 _ _ _ _) ?_; intro w7 r1 r2)
    have h7 := (h63.mono (NatIn.mono _) (le_store r2 (by omega) (by omega))).mono (NatIn.mono _) le_unbox
    exact bodyPost_ret (results_box rfl rfl stInt r1 rfl) rfl ⟨ExtX.box (hE.trans (hE5.trans hE6)) r2 (by omega), _, rfl, s6, a6, c6, l6, rfl, h61, h62, h7⟩
theorem run_fieldMag (s : Bool) (a : Option Addr) (n c : Nat) (W : World) : (Instr.field 39 (.agg #[.bool s, .slice a n c]) 1).run Tryz.prog W = .ok (.slice a n c) W := by kernel_rfl
set_option maxRecDepth 100000 in
set_option maxHeartbeats 800000 in
theorem rigcd (X : Nat -> Bool) (w : World) (u v : Value) (x y : Int) (hX : HX X w) (hu : ZV (mk X w) u x) (hv : ZV (mk X w) v y) (hbx : lg x.natAbs <= 274877906944) (hby : lg y.natAbs <= 274877906944) : Calls Tryz.prog 197 #[u, v] w (ROut X w NC (Nat.gcd x.natAbs y.natAbs)) := by
  have hbx' := hid hbx
  have hby' := hid hby
  clear hbx hby
  have hlx := hid hu.lg
  have hly := hid hv.lg
  obtain ⟨s1, a1, c1, l1, rfl, hu'⟩ := id hu
  obtain ⟨s2, a2, c2, l2, rfl, hv'⟩ := id hv
  obtain ⟨W, hW, hE, b0, b1, hz⟩ := boxes2 w #[.bool s1, .slice a1 l1.length c1] #[.bool s2, .slice a2 l2.length c2] 39 39
  have hXW : HX (hidB X w.heap.size 2) W := hX.boxes hz
  have hu1 := ZV.mono _ _ _ _ (le_boxes (nb := 2) hE) hu
  have hv1 := ZV.mono _ _ _ _ (le_boxes (nb := 2) hE) hv
  obtain ⟨b, hb⟩ : ∃ b, w.heap.size = b := ⟨_, rfl⟩
  have hbw : w.heap.size <= b := by omega
  rw [hb] at b0 b1 hz hXW hu1 hv1
  have hEd : Ext W W.drew := (ExtX.refl W).drew
  have hXd : HX (hidB X b 2) W.drew := hXW
  have hud : ZV (mk (hidB X b 2) W.drew) (.agg #[.bool s1, .slice a1 l1.length c1]) x := hu1
  have hvd : ZV (mk (hidB X b 2) W.drew) (.agg #[.bool s2, .slice a2 l2.length c2]) y := hv1
  have k00 := b0.cell 0 rfl
  have k01 := b0.cell 1 rfl
  have k10 := b1.cell 0 rfl
  have k11 := b1.cell 1 rfl
  clear hu hv hu' hv'
  have hB := hid (And.intro b0 b1)
  have hfl := run_fieldMag
  go_enter Tryz.func197, Tryz.ntmps197
  go_wp2_with fail
  go_region_with (first | (go_at_call 194; (with_reducible refine (ritake (hidB X b 2) W.drew _ x hXd hud).mono ?_); rintro e w5 ⟨hE5, u5, rfl, s5, a5, c5, l5, rfl, h51, h52, h53⟩; have bb0 := hB.out.1.ext0 (hEd.trans hE5); have bb1 := hB.out.2.ext0 (hEd.trans hE5); have e00 := bb0.cell 0 rfl; have e01 := bb0.cell 1 rfl; have e10 := bb1.cell 0 rfl; have e11 := bb1.cell 1 rfl) | (go_at_call 194; (with_reducible refine (ritake (hidB X b 2) w5 _ y (HX.ext hXd hE5) (mkx ZV.mono hvd hE5)).mono ?_); rintro e w6 ⟨hE6, u6, rfl, s6, a6, c6, l6, rfl, h61, h62, h63⟩; have hX6 := HX.ext (HX.ext hXd hE5) hE6; have hm5 : NV (mk (hidB X b 2) w6) (.slice a5 l5.length c5) x.natAbs := NC.nv ⟨a5, c5, l5, rfl, h51, h52.2, h53.mono (NatIn.mono _) (mk_ext hE6)⟩ (by have := hbx'.out; omega); have hm6 : NV (mk (hidB X b 2) w6) (.slice a6 l6.length c6) y.natAbs := NC.nv ⟨a6, c6, l6, rfl, h61, h62.2, h63⟩ (by have := hby'.out; omega)) | (go_at_call 275; (with_reducible refine (rngcd (hidB X b 2) w6 _ _ _ _ hX6 hm5 hm6 hbx'.out hby'.out).mono ?_); rintro e w7 ⟨hE7, u7, rfl, hu7⟩))
  all_goals
    have hEf := hE.trans (hEd.trans (hE5.trans (hE6.trans hE7)))
    clear e00 e01 e10 e11 k00 k01 k10 k11 hfl
    go_wp2_with fail
    go_ret
    exact ⟨hEf, _, rfl, NC.mono _ _ _ _ le_unbox hu7⟩
end Go.Proofs.YtnnpfhoigmegcaaGreat
namespace Go.Proofs.YtnnpfhoigmegcaaGreat
open Go.RowKit Go.Rep Go.Lim
def IDOut (X : Nat -> Bool) (w : World) (q : Int) (e : Ending) (w' : World) : Prop := Ext w w' /\ ∃ u sv av nv cv, e = .returned (.tuple #[u, .agg #[.bool sv, .slice av nv cv], .bool true]) /\ ZC (mk X w') u q
theorem results_box3 {P : Program} {w : World} {fn : Func} {tmps : Array Value} {c c2 d : Tmp} {t : TypeId} {n b b' : Nat} {cs cs' : Array Value} {T T' : TypeId} (h : fn.results = #[.cell c t, .cell c2 t, .tmp d]) (hp : tmps.getD c undef = .pointer (some ⟨b, 0, none⟩)) (hp2 : tmps.getD c2 undef = .pointer (some ⟨b', 0, none⟩)) (hT : StructT P t n) (hb : Bx w b cs T) (hcs : cs.size = n) (hb' : Bx w b' cs' T') (hcs' : cs'.size = n) :
    (results fn tmps).run P w = .ok (.tuple #[.agg cs, .agg cs', tmps.getD d undef]) w := by
  have hl := run_loadBox (P := P) hT hb hcs
  have hl' := run_loadBox (P := P) hT hb' hcs'
  rw [Array.getD_eq_getD_getElem?] at hp hp2
  simp [results, h, hp, hp2, asAddr, hl, hl']
set_option maxRecDepth 100000 in
set_option maxHeartbeats 800000 in
theorem ridiv (X : Nat -> Bool) (w : World) (u v : Value) (x y : Int) (hX : HX X w) (hu : ZV (mk X w) u x) (hv : ZV (mk X w) v y) (hbx : lg x.natAbs <= 274877906944) (hby : lg y.natAbs <= 274877906944) (h0 : 0 < y) (hd : y ∣ x) : Calls Tryz.prog 198 #[u, v] w (IDOut X w (x / y)) := by
  have hbx' := hid hbx
  have hby' := hid hby
  have hq : Hid (∃ k : Int, x = y * k /\ x / y = k) := hid (by
    obtain ⟨k, rfl⟩ := hd
    exact ⟨k, rfl, Int.mul_ediv_cancel_left _ (by omega)⟩)
  have h0' := hid h0
  clear hbx hby hd h0
  have hlx := hid hu.lg
  have hly := hid hv.lg
  obtain ⟨s1, a1, c1, l1, rfl, hu'⟩ := id hu
  obtain ⟨s2, a2, c2, l2, rfl, hv'⟩ := id hv
  obtain ⟨W, hW, hE, b0, b1, b2, b3, hz⟩ := boxes4 w #[.bool s1, .slice a1 l1.length c1] #[.bool s2, .slice a2 l2.length c2] #[.bool false, .slice none 0 0] #[.bool false, .slice none 0 0] 39 39 39 39
  have hXW : HX (hidB X w.heap.size 4) W := hX.boxes hz
  have hu1 := ZV.mono _ _ _ _ (le_boxes (nb := 4) hE) hu
  have hv1 := ZV.mono _ _ _ _ (le_boxes (nb := 4) hE) hv
  obtain ⟨b, hb⟩ : ∃ b, w.heap.size = b := ⟨_, rfl⟩
  have hbw : w.heap.size <= b := by omega
  rw [hb] at b0 b1 b2 b3 hz hXW hu1 hv1
  have hEd : Ext W W.drew := (ExtX.refl W).drew
  have hXd : HX (hidB X b 4) W.drew := hXW
  have hud : ZV (mk (hidB X b 4) W.drew) (.agg #[.bool s1, .slice a1 l1.length c1]) x := hu1
  have hvd : ZV (mk (hidB X b 4) W.drew) (.agg #[.bool s2, .slice a2 l2.length c2]) y := hv1
  have k00 := b0.cell 0 rfl
  have k01 := b0.cell 1 rfl
  have k10 := b1.cell 0 rfl
  have k11 := b1.cell 1 rfl
  clear hu hv hu' hv'
  go_enter Tryz.func198, Tryz.ntmps198
  go_upto_region 1 with (fail)
  go_cut [] from 10 to 13 (fun wx => ∃ s3 a3 c3 l3 s4 a4 c4 l4, Bx wx b #[.bool s3, .slice a3 l3 c3] 39 /\ Bx wx (b + 1) #[.bool s4, .slice a4 l4 c4] 39 /\ Bx wx (b + 1 + 1) #[.bool false, .slice none 0 0] 39 /\ Bx wx (b + 1 + 1 + 1) #[.bool false, .slice none 0 0] 39 /\ ZC (mk (hidB X b 4) wx) (.agg #[.bool s3, .slice a3 l3 c3]) x /\ ZC (mk (hidB X b 4) wx) (.agg #[.bool s4, .slice a4 l4 c4]) y /\ Ext w wx)
  case first =>
    go_region_with (first | (go_at_call 194; (with_reducible refine (ritake (hidB X b 4) W.drew _ x hXd hud).mono ?_); rintro e w5 ⟨hE5, u5, rfl, s5, a5, c5, l5, rfl, h51, h52, h53⟩; have bb0 := b0.ext0 (hEd.trans hE5); have bb1 := b1.ext0 (hEd.trans hE5); have e00 := bb0.cell 0 rfl; have e01 := bb0.cell 1 rfl; have e10 := bb1.cell 0 rfl; have e11 := bb1.cell 1 rfl) | (go_at_call 194; (with_reducible refine (ritake (hidB X b 4) w5 _ y (HX.ext hXd hE5) (mkx ZV.mono hvd hE5)).mono ?_); rintro e w6 ⟨hE6, u6, rfl, s6, a6, c6, l6, rfl, h61, h62, h63⟩; have bb2 := bb0.ext0 hE6; have bb3 := bb1.ext0 hE6; have g00 := bb2.cell 0 rfl; have g01 := bb2.cell 1 rfl; have g10 := bb3.cell 0 rfl; have g11 := bb3.cell 1 rfl; have fr0 := bb2.frozen 0; have fr1 := bb2.frozen 1; have fr2 := bb3.frozen 0; have fr3 := bb3.frozen 1))
    all_goals
      obtain ⟨wf, hwf, q0, q1, q2, q3, q4⟩ := two_stores (X := X) (nb := 4) bb2 bb3 (hE.trans ((hEd.trans hE5).trans hE6)) hbw (by omega) (.bool s5) (.slice a5 l5.length c5) (.bool s6) (.slice a6 l6.length c6)
      rw [hwf]
      have hfx : ZC (mk (hidB X b 4) wf) (.agg #[.bool s5, .slice a5 l5.length c5]) x := ⟨s5, a5, c5, l5, rfl, h51, h52, (h53.mono (NatIn.mono _) (mk_ext hE6)).mono (NatIn.mono _) q4⟩
      have hfy : ZC (mk (hidB X b 4) wf) (.agg #[.bool s6, .slice a6 l6.length c6]) y := ⟨s6, a6, c6, l6, rfl, h61, h62, h63.mono (NatIn.mono _) q4⟩
      have q5 := q2 (b + 1 + 1) _ _ (by omega) (by omega) ((b2.ext0 (hEd.trans hE5)).ext0 hE6)
      have q6 := q2 (b + 1 + 1 + 1) _ _ (by omega) (by omega) ((b3.ext0 (hEd.trans hE5)).ext0 hE6)
      clear e00 e01 e10 e11 g00 g01 g10 g11 fr0 fr1 fr2 fr3 k00 k01 k10 k11 hwf
      go_wp2_with fail
      go_meet
      exact ⟨_, _, _, _, _, _, _, _, q0, q1, q5, q6, hfx, hfy, q3⟩
  case rest =>
    clear k00 k01 k10 k11 b0 b1 b2 b3 hu1 hv1 hud hvd hXd hEd hW
    obtain ⟨s3, a3, c3, n3, s4, a4, c4, n4, b0, b1, b2, b3, hx, hy, hE1⟩ := hcut
    obtain ⟨_, _, _, l3, heq, h31, h32, h33⟩ := hx
    simp only [Value.agg.injEq, Array.mk.injEq, List.cons.injEq, Value.bool.injEq, Value.slice.injEq, and_true] at heq
    obtain ⟨rfl, rfl, rfl, rfl⟩ := heq
    obtain ⟨_, _, _, l4, heq, h41, h42, h43⟩ := hy
    simp only [Value.agg.injEq, Array.mk.injEq, List.cons.injEq, Value.bool.injEq, Value.slice.injEq, and_true] at heq
    obtain ⟨rfl, rfl, rfl, rfl⟩ := heq
    have hlz := hid (sg_of h32)
    have hlw := hid (sg_of h42)
    have hsx := hid h32.1
    have hsy := hid h42.1
    have hEd : Ext wc wc.drew := (ExtX.refl wc).drew
    have hnx : NV (mk (hidB X b 4) wc) (.slice a3 l3.length c3) x.natAbs := NC.nv ⟨a3, c3, l3, rfl, h31, h32.2, h33⟩ (by have := hlx.out; omega)
    have hny : NV (mk (hidB X b 4) wc) (.slice a4 l4.length c4) y.natAbs := NC.nv ⟨a4, c4, l4, rfl, h41, h42.2, h43⟩ (by have := hly.out; omega)
    have hzz : w.heap.size + 4 <= wc.heap.size := by have := b3.lt; omega
    have hXc : HX (hidB X b 4) wc := hX.boxes' hE1 (by omega) hzz
    have k00 := b0.cell 0 rfl
    have k01 := b0.cell 1 rfl
    have k10 := b1.cell 0 rfl
    have k11 := b1.cell 1 rfl
    have hy0 : Hid (0 < y.natAbs) := hid (by have := h0'.out; omega)
    have hmod : Hid (x.natAbs % y.natAbs = 0) := hid (by
      obtain ⟨k, hk, _⟩ := hq.out
      rw [hk, Int.natAbs_mul]; exact Nat.mul_mod_right _ _)
    obtain rfl : s4 = false := by rw [hsy.out]; exact decide_eq_false (by have := h0'.out; omega)
    have hfin : Hid (sg s3 (x.natAbs / y.natAbs) = x / y) := hid (by
      obtain ⟨k, hk, hk2⟩ := hq.out
      have h0 := h0'.out
      have e1 := hlz.out
      rw [hk2]
      have hdv : x.natAbs / y.natAbs = k.natAbs := by rw [hk, Int.natAbs_mul]; exact Nat.mul_div_cancel_left _ hy0.out
      rw [hdv, hsx.out]
      have hs : (x < 0) = (k < 0) := by
        rw [hk]
        exact propext ⟨fun h => by
          by_cases hk0 : k < 0
          · exact hk0
          · have := Int.mul_nonneg (show 0 <= y by omega) (show 0 <= k by omega); omega, fun h => Int.mul_neg_of_pos_of_neg h0 h⟩
      unfold sg
      simp only [hs]
      by_cases hk0 : k < 0
      · simp only [hk0, decide_true, if_true]; omega
      · simp only [hk0, decide_false, Bool.false_eq_true, if_false]; omega)
    clear hsx hsy hlz hlw h32 h42 hEd
    go_wp2_with fail
    refine (rndiv (hidB X b 4) wc _ _ _ _ hXc hnx hny hbx'.out hby'.out hy0.out).mono ?_
    rintro e w5 ⟨hE5, qu, ru, rfl, hqu, hru⟩
    rw [hmod.out] at hru
    obtain ⟨a5, c5, l5, rfl, h51, h52, h53⟩ := hru
    obtain rfl : l5 = [] := List.eq_nil_of_length_eq_zero ((canon_len0 h52).2 rfl)
    have hX5 := hXc.ext hE5
    have bb0 := b0.ext0 hE5
    have bb1 := b1.ext0 hE5
    have bb2 := b2.ext0 hE5
    have bb3 := b3.ext0 hE5
    clear k00 k01 k10 k11
    have k00 := bb0.cell 0 rfl
    have k01 := bb0.cell 1 rfl
    have k10 := bb1.cell 0 rfl
    have k11 := bb1.cell 1 rfl
    simp only [List.length_nil]
    cases s3
    ·
      go_wp2_with fail
      refine (risigned (hidB X b 4) w5 false qu _ hX5 hqu).mono ?_
      rintro e w6 ⟨hE6, u6, rfl, s6, a6, c6, l6, rfl, h61, h62, h63⟩
      rw [hfin.out] at h62
      go_wp2_with fail
      refine (risigned (hidB X b 4) w6 false _ 0 (hX5.ext hE6) (mkx NC.mono ⟨a5, c5, [], rfl, h51, h52, h53⟩ hE6)).mono ?_
      rintro e w7 ⟨hE7, u7, rfl, s7, a7, c7, l7, rfl, h71, h72, h73⟩
      have d2 := (bb2.ext0 hE6).ext0 hE7
      have d3 := (bb3.ext0 hE6).ext0 hE7
      have hs7 := h63.mono (NatIn.mono _) (mk_ext hE7)
      have hE57 := hE1.trans (hE5.trans (hE6.trans hE7))
      clear k00 k01 k10 k11 h72 h73 h71
      go_wp2_with ((with_reducible show wpList _ _ _ (⟨_, .store _ _ _, _, _, _, _⟩ :: _) _ _); first | (refine st_storeBox stInt rfl rfl d2 rfl rfl (one2 _ _ _ _) ?_; intro w8 r1 r2; have d3' := d3.ext r2 (ob_other (by omega))) | (refine st_storeBox stInt rfl rfl d3' rfl rfl (one2 _ _ _ _) ?_; intro w9 r3 r4))
      have r5 := r1.ext r4 (ob_other (by omega))
      have h8 := ((hs7.mono (NatIn.mono _) (le_store r2 (by omega) (by omega))).mono (NatIn.mono _) (le_store r4 (by omega) (by omega))).mono (NatIn.mono _) le_unbox
      exact bodyPost_ret (results_box3 rfl rfl rfl stInt r5 rfl r3 rfl) rfl ⟨ExtX.box (ExtX.box hE57 r2 (by omega)) r4 (by omega), _, _, _, _, _, rfl, s6, a6, c6, l6, rfl, h61, h62, h8⟩
    ·
      go_wp2_with fail
      refine (risigned (hidB X b 4) w5 true qu _ hX5 hqu).mono ?_
      rintro e w6 ⟨hE6, u6, rfl, s6, a6, c6, l6, rfl, h61, h62, h63⟩
      rw [hfin.out] at h62
      go_wp2_with fail
      refine (risigned (hidB X b 4) w6 false _ 0 (hX5.ext hE6) (mkx NC.mono ⟨a5, c5, [], rfl, h51, h52, h53⟩ hE6)).mono ?_
      rintro e w7 ⟨hE7, u7, rfl, s7, a7, c7, l7, rfl, h71, h72, h73⟩
      have d2 := (bb2.ext0 hE6).ext0 hE7
      have d3 := (bb3.ext0 hE6).ext0 hE7
      have hs7 := h63.mono (NatIn.mono _) (mk_ext hE7)
      have hE57 := hE1.trans (hE5.trans (hE6.trans hE7))
      clear k00 k01 k10 k11 h72 h73 h71
      go_wp2_with ((with_reducible show wpList _ _ _ (⟨_, .store _ _ _, _, _, _, _⟩ :: _) _ _); first | (refine st_storeBox stInt rfl rfl d2 rfl rfl (one2 _ _ _ _) ?_; intro w8 r1 r2; have d3' := d3.ext r2 (ob_other (by omega))) | (refine st_storeBox stInt rfl rfl d3' rfl rfl (one2 _ _ _ _) ?_; intro w9 r3 r4))
      have r5 := r1.ext r4 (ob_other (by omega))
      have h8 := ((hs7.mono (NatIn.mono _) (le_store r2 (by omega) (by omega))).mono (NatIn.mono _) (le_store r4 (by omega) (by omega))).mono (NatIn.mono _) le_unbox
      exact bodyPost_ret (results_box3 rfl rfl rfl stInt r5 rfl r3 rfl) rfl ⟨ExtX.box (ExtX.box hE57 r2 (by omega)) r4 (by omega), _, _, _, _, _, rfl, s6, a6, c6, l6, rfl, h61, h62, h8⟩
end Go.Proofs.YtnnpfhoigmegcaaGreat
namespace Go.Lim
def cmpZ (a b : Int) : Int := if a < b then -1 else if b < a then 1 else 0
theorem cmpZ_of (x y : Int) : (x.sign < y.sign -> cmpZ x y = -1) /\ (y.sign < x.sign -> cmpZ x y = 1) /\ (x.sign = y.sign -> x.sign * cmpN x.natAbs y.natAbs = cmpZ x y) := by
  have hs : ∀ z : Int, (z < 0 /\ z.sign = -1) \/ (z = 0 /\ z.sign = 0) \/ (0 < z /\ z.sign = 1) := fun z => by
    rcases Int.lt_trichotomy z 0 with h | h | h
    · exact .inl ⟨h, Int.sign_eq_neg_one_of_neg h⟩
    · subst h; exact .inr (.inl ⟨rfl, rfl⟩)
    · exact .inr (.inr ⟨h, Int.sign_eq_one_of_pos h⟩)
  unfold cmpZ cmpN
  rcases hs x with ⟨h1, e1⟩ | ⟨h1, e1⟩ | ⟨h1, e1⟩ <;> rcases hs y with ⟨h2, e2⟩ | ⟨h2, e2⟩ | ⟨h2, e2⟩ <;> rw [e1, e2]
  all_goals refine ⟨fun h => ?_, fun h => ?_, fun h => ?_⟩
  all_goals first
    | omega
    | (repeat' split) <;> omega
end Go.Lim
namespace Go.Proofs.YtnnpfhoigmegcaaGreat
open Go.RowKit Go.Rep Go.Lim
theorem ifrom (X : Nat -> Bool) (w : World) (v : Int) (hX : HX X w) (h1 : -9223372036854775808 <= v) (h2 : v <= 9223372036854775807) : Calls Tryz.prog 231 #[.int .i64 v] w (ROut X w ZC v) := by
  obtain ⟨W, hW, hE, b0, hz⟩ := boxes1 w #[.bool false, .slice none 0 0] 39
  have hXW : HX (hidB X w.heap.size 1) W := hX.boxes hz
  obtain ⟨b, hb⟩ : ∃ b, w.heap.size = b := ⟨_, rfl⟩
  have hbw : w.heap.size <= b := by omega
  rw [hb] at b0 hz hXW
  have hlt : Hid (v.natAbs < 18446744073709551616) := hid (by omega)
  by_cases hv : v < 0
  · have hn : Hid (sg true v.natAbs = v) := hid (by unfold sg; simp; omega)
    have hvv : Hid (IntKind.u64.wrap (-(IntKind.u64.wrap v)) = (v.natAbs : Int)) := hid (by rw [IntKind.wrap_u64, IntKind.wrap_u64]; omega)
    go_enter Tryz.func231, Tryz.ntmps231
    go_wp2_with fail
    rw [hvv.out]
    refine (nfrom (X := hidB X b 1) hXW hlt.out).mono ?_
    rintro e w5 ⟨hE5, u5, rfl, hu5⟩
    go_wp2_with fail
    refine (isigned (hidB X b 1) w5 true u5 _ (hXW.ext hE5) hu5).mono ?_
    rintro e w6 ⟨hE6, u6, rfl, s6, a6, c6, l6, rfl, h61, h62, h63⟩
    rw [hn.out] at h62
    have bb0 := (b0.ext0 hE5).ext0 hE6
    go_wp2_with ((with_reducible show wpList _ _ _ (⟨_, .store _ _ _, _, _, _, _⟩ :: _) _ _); refine st_storeBox stInt rfl rfl bb0 rfl rfl (one2 _ _ _ _) ?_; intro w7 r1 r2)
    have h7 := (h63.mono (NatIn.mono _) (le_store r2 (by omega) (by omega))).mono (NatIn.mono _) le_unbox
    exact bodyPost_ret (results_box rfl rfl stInt r1 rfl) rfl ⟨ExtX.box (hE.trans (hE5.trans hE6)) r2 (by omega), _, rfl, s6, a6, c6, l6, rfl, h61, h62, h7⟩
  · obtain ⟨n, rfl⟩ := Int.eq_ofNat_of_zero_le (show 0 <= v by omega)
    have hn : Hid (sg false n = (n : Int)) := hid rfl
    have hlt2 : Hid (n < 18446744073709551616) := hid (by omega)
    go_enter Tryz.func231, Tryz.ntmps231
    go_wp2_with fail
    refine (nfrom (X := hidB X b 1) hXW hlt2.out).mono ?_
    rintro e w5 ⟨hE5, u5, rfl, hu5⟩
    go_wp2_with fail
    refine (isigned (hidB X b 1) w5 false u5 n (hXW.ext hE5) hu5).mono ?_
    rintro e w6 ⟨hE6, u6, rfl, s6, a6, c6, l6, rfl, h61, h62, h63⟩
    have bb0 := (b0.ext0 hE5).ext0 hE6
    go_wp2_with ((with_reducible show wpList _ _ _ (⟨_, .store _ _ _, _, _, _, _⟩ :: _) _ _); refine st_storeBox stInt rfl rfl bb0 rfl rfl (one2 _ _ _ _) ?_; intro w7 r1 r2)
    have h7 := (h63.mono (NatIn.mono _) (le_store r2 (by omega) (by omega))).mono (NatIn.mono _) le_unbox
    exact bodyPost_ret (results_box rfl rfl stInt r1 rfl) rfl ⟨ExtX.box (hE.trans (hE5.trans hE6)) r2 (by omega), _, rfl, s6, a6, c6, l6, rfl, h61, h62, h7⟩
set_option maxRecDepth 100000 in
set_option maxHeartbeats 800000 in
theorem icompare (X : Nat -> Bool) (w : World) (u v : Value) (x y : Int) (hX : HX X w) (hu : ZV (mk X w) u x) (hv : ZV (mk X w) v y) : Calls Tryz.prog 259 #[u, v] w (IntOut w (cmpZ x y)) := by
  have hlx := hid hu.lg
  have hly := hid hv.lg
  obtain ⟨s1, a1, c1, l1, rfl, hu'⟩ := id hu
  obtain ⟨s2, a2, c2, l2, rfl, hv'⟩ := id hv
  obtain ⟨W, hW, hE, b0, b1, hz⟩ := boxes2 w #[.bool s1, .slice a1 l1.length c1] #[.bool s2, .slice a2 l2.length c2] 39 39
  have hXW : HX (hidB X w.heap.size 2) W := hX.boxes hz
  have hu1 := ZV.mono _ _ _ _ (le_boxes (nb := 2) hE) hu
  have hv1 := ZV.mono _ _ _ _ (le_boxes (nb := 2) hE) hv
  obtain ⟨b, hb⟩ : ∃ b, w.heap.size = b := ⟨_, rfl⟩
  have hbw : w.heap.size <= b := by omega
  rw [hb] at b0 b1 hz hXW hu1 hv1
  have hEd : Ext W W.drew := (ExtX.refl W).drew
  have hXd : HX (hidB X b 2) W.drew := hXW
  have hud : ZV (mk (hidB X b 2) W.drew) (.agg #[.bool s1, .slice a1 l1.length c1]) x := hu1
  have hvd : ZV (mk (hidB X b 2) W.drew) (.agg #[.bool s2, .slice a2 l2.length c2]) y := hv1
  have k00 := b0.cell 0 rfl
  have k01 := b0.cell 1 rfl
  have k10 := b1.cell 0 rfl
  have k11 := b1.cell 1 rfl
  clear hu hv hu' hv'
  go_enter Tryz.func259, Tryz.ntmps259
  go_upto_region 1 with (fail)
  go_cut [] from 7 to 10 (fun wx => ∃ s3 a3 c3 l3 s4 a4 c4 l4, Bx wx b #[.bool s3, .slice a3 l3 c3] 39 /\ Bx wx (b + 1) #[.bool s4, .slice a4 l4 c4] 39 /\ ZC (mk (hidB X b 2) wx) (.agg #[.bool s3, .slice a3 l3 c3]) x /\ ZC (mk (hidB X b 2) wx) (.agg #[.bool s4, .slice a4 l4 c4]) y /\ Ext w wx)
  case first =>
    go_region_with (first | (go_at_call 282; (with_reducible refine (ivalue (hidB X b 2) W.drew _ x hXd hud).mono ?_); rintro e w5 ⟨hE5, u5, rfl, s5, a5, c5, l5, rfl, h51, h52, h53⟩; have bb0 := b0.ext0 (hEd.trans hE5); have bb1 := b1.ext0 (hEd.trans hE5); have e00 := bb0.cell 0 rfl; have e01 := bb0.cell 1 rfl; have e10 := bb1.cell 0 rfl; have e11 := bb1.cell 1 rfl) | (go_at_call 282; (with_reducible refine (ivalue (hidB X b 2) w5 _ y (HX.ext hXd hE5) (mkx ZV.mono hvd hE5)).mono ?_); rintro e w6 ⟨hE6, u6, rfl, s6, a6, c6, l6, rfl, h61, h62, h63⟩; have bb2 := bb0.ext0 hE6; have bb3 := bb1.ext0 hE6; have g00 := bb2.cell 0 rfl; have g01 := bb2.cell 1 rfl; have g10 := bb3.cell 0 rfl; have g11 := bb3.cell 1 rfl; have fr0 := bb2.frozen 0; have fr1 := bb2.frozen 1; have fr2 := bb3.frozen 0; have fr3 := bb3.frozen 1))
    all_goals
      obtain ⟨wf, hwf, q0, q1, q2, q3, q4⟩ := two_stores (X := X) (nb := 2) bb2 bb3 (hE.trans ((hEd.trans hE5).trans hE6)) hbw (by omega) (.bool s5) (.slice a5 l5.length c5) (.bool s6) (.slice a6 l6.length c6)
      rw [hwf]
      have hfx : ZC (mk (hidB X b 2) wf) (.agg #[.bool s5, .slice a5 l5.length c5]) x := ⟨s5, a5, c5, l5, rfl, h51, h52, (h53.mono (NatIn.mono _) (mk_ext hE6)).mono (NatIn.mono _) q4⟩
      have hfy : ZC (mk (hidB X b 2) wf) (.agg #[.bool s6, .slice a6 l6.length c6]) y := ⟨s6, a6, c6, l6, rfl, h61, h62, h63.mono (NatIn.mono _) q4⟩
      clear e00 e01 e10 e11 g00 g01 g10 g11 fr0 fr1 fr2 fr3 k00 k01 k10 k11 hwf
      go_wp2_with fail
      go_meet
      exact ⟨_, _, _, _, _, _, _, _, q0, q1, hfx, hfy, q3⟩
  case rest =>
    clear k00 k01 k10 k11 b0 b1 hu1 hv1 hud hvd hXd hEd hW
    obtain ⟨s3, a3, c3, n3, s4, a4, c4, n4, b0, b1, hx, hy, hE1⟩ := hcut
    have hzx := hx.zv hlx.out
    have hzy := hy.zv hly.out
    obtain ⟨_, _, _, l3, heq, h31, h32, h33⟩ := hx
    simp only [Value.agg.injEq, Array.mk.injEq, List.cons.injEq, Value.bool.injEq, Value.slice.injEq, and_true] at heq
    obtain ⟨rfl, rfl, rfl, rfl⟩ := heq
    obtain ⟨_, _, _, l4, heq, h41, h42, h43⟩ := hy
    simp only [Value.agg.injEq, Array.mk.injEq, List.cons.injEq, Value.bool.injEq, Value.slice.injEq, and_true] at heq
    obtain ⟨rfl, rfl, rfl, rfl⟩ := heq
    have hlz := hid (sg_of h32)
    have hlw := hid (sg_of h42)
    have hsx := hid h32.1
    have hsy := hid h42.1
    have hEd : Ext wc wc.drew := (ExtX.refl wc).drew
    have hnx : NV (mk (hidB X b 2) wc) (.slice a3 l3.length c3) x.natAbs := NC.nv ⟨a3, c3, l3, rfl, h31, h32.2, h33⟩ (by have := hlx.out; omega)
    have hny : NV (mk (hidB X b 2) wc) (.slice a4 l4.length c4) y.natAbs := NC.nv ⟨a4, c4, l4, rfl, h41, h42.2, h43⟩ (by have := hly.out; omega)
    have hzz : w.heap.size + 2 <= wc.heap.size := by have := b1.lt; omega
    have hXc : HX (hidB X b 2) wc := hX.boxes' hE1 (by omega) hzz
    have hB := hid (And.intro b0 b1)
    have k00 := b0.cell 0 rfl
    have k01 := b0.cell 1 rfl
    have k10 := b1.cell 0 rfl
    have k11 := b1.cell 1 rfl
    have hcm := hid (cmpZ_of x y)
    have hsg : Hid (∀ z : Int, z.sign = -1 \/ z.sign = 0 \/ z.sign = 1) := hid (fun z => by
      rcases Int.lt_trichotomy z 0 with h | h | h
      · exact .inl (Int.sign_eq_neg_one_of_neg h)
      · subst h; exact .inr (.inl rfl)
      · exact .inr (.inr (Int.sign_eq_one_of_pos h)))
    clear hsx hsy hlz hlw h32 h42
    have hXd : HX (hidB X b 2) wc.drew := hXc
    have hzxd : ZV (mk (hidB X b 2) wc.drew) (.agg #[.bool s3, .slice a3 l3.length c3]) x := hzx
    have hzyd : ZV (mk (hidB X b 2) wc.drew) (.agg #[.bool s4, .slice a4 l4.length c4]) y := hzy
    go_wp2_with fail
    go_region_held3 (fun w' => w'.cell? ⟨b, 0, none⟩ = some (.bool s3) /\ w'.cell? ⟨b, 1, none⟩ = some (.slice a3 l3.length c3) /\ w'.cell? ⟨b + 1, 0, none⟩ = some (.bool s4) /\ w'.cell? ⟨b + 1, 1, none⟩ = some (.slice a4 l4.length c4))
      (first | exact ⟨(hB.out.1.ext0 (hEd.trans hE5)).cell 0 rfl, (hB.out.1.ext0 (hEd.trans hE5)).cell 1 rfl, (hB.out.2.ext0 (hEd.trans hE5)).cell 0 rfl, (hB.out.2.ext0 (hEd.trans hE5)).cell 1 rfl⟩ | exact ⟨(hB.out.1.ext0 (hEd.trans (hE5.trans hE6))).cell 0 rfl, (hB.out.1.ext0 (hEd.trans (hE5.trans hE6))).cell 1 rfl, (hB.out.2.ext0 (hEd.trans (hE5.trans hE6))).cell 0 rfl, (hB.out.2.ext0 (hEd.trans (hE5.trans hE6))).cell 1 rfl⟩ | go_keep)
      (first | (go_at_call 206; (with_reducible refine (isign (hidB X b 2) wc.drew _ x hXd hzxd).mono ?_); rintro e w5 ⟨hE5, rfl⟩) | (go_at_call 206; (with_reducible refine (isign (hidB X b 2) w5 _ y (HX.ext hXd hE5) (mkx ZV.mono hzyd hE5)).mono ?_); rintro e w6 ⟨hE6, rfl⟩))
    have hE6' : Ext wc w6 := hEd.trans (hE5.trans hE6)
    have q0 := hB.out.1.ext0 hE6'
    have q1 := hB.out.2.ext0 hE6'
    have hnx6 := mkx NV.mono hnx hE6'
    have hny6 := mkx NV.mono hny hE6'
    have hEf := hE1.trans hE6'
    clear k00 k01 k10 k11 hE5 hE6 hEd hXd hzxd hzyd hzx hzy hnx hny
    have k00 := q0.cell 0 rfl
    have k01 := q0.cell 1 rfl
    have k10 := q1.cell 0 rfl
    have k11 := q1.cell 1 rfl
    have hx3 := hsg.out x
    have hy3 := hsg.out y
    have hxs := hid (show x.sign = x.sign from rfl)
    generalize hsx : x.sign = sx at *
    generalize hsy : y.sign = sy at *
    clear hxs hsx hsy
    have hbx : -1 <= sx /\ sx <= 1 := by omega
    have hby : -1 <= sy /\ sy <= 1 := by omega
    clear hx3 hy3
    by_cases h1 : sx < sy
    · have hf := hid (hcm.out.1 h1)
      go_wp2_with fail
      go_ret
      exact ⟨hEf, ret_int hf.out.symm⟩
    · by_cases h2 : sy < sx
      · have hf := hid (hcm.out.2.1 h2)
        go_wp2_with fail
        go_ret
        exact ⟨hEf, ret_int hf.out.symm⟩
      · have hf := hid (hcm.out.2.2 (by omega))
        go_wp2_with fail
        refine (ncmp hnx6 hny6).mono ?_
        rintro e w7 ⟨hE7, rfl⟩
        have hcb : -1 <= cmpN x.natAbs y.natAbs /\ cmpN x.natAbs y.natAbs <= 1 := by unfold cmpN; split <;> (try split) <;> omega
        generalize cmpN x.natAbs y.natAbs = cm at *
        have hpb : -1 <= sx * cm /\ sx * cm <= 1 := by
          rcases (by omega : sx = -1 \/ sx = 0 \/ sx = 1) with rfl | rfl | rfl <;> omega
        have hw1 : IntKind.i64.wrap (sx * cm) = sx * cm := IntWalk.i64_in _ (by omega)
        clear k00 k01 k10 k11
        go_wp2_with fail
        go_ret
        exact ⟨hEf.trans hE7, ret_int hf.out⟩
end Go.Proofs.YtnnpfhoigmegcaaGreat
namespace Go.Rep
open Go.RowKit Go.Lim
def QV (h : Mem) (u : Value) (q : Rat) : Prop := ∃ s ao c m bo e d, u = .agg #[.bool s, .slice ao m.length c, .slice bo d.length e] /\ m.length <= c /\ d.length <= e /\ Dig m /\ Dig d /\ m.length <= 68719476736 /\ d.length <= 68719476736 /\ Sl (NatIn .u32) 1 h ao m /\ Sl (NatIn .u32) 1 h bo d /\ qval s m d = q
def QC (h : Mem) (u : Value) (q : Rat) : Prop := ∃ s ao c m bo e d, u = .agg #[.bool s, .slice ao m.length c, .slice bo d.length e] /\ m.length <= c /\ d.length <= e /\ CanQ s m d q /\ Sl (NatIn .u32) 1 h ao m /\ Sl (NatIn .u32) 1 h bo d
theorem QV.mono : Mono QV := by rintro h h' u x hl ⟨s, ao, c, m, bo, e, d, rfl, h1, h2, h3, h4, h5, h6, h7, h8, h9⟩; exact ⟨s, ao, c, m, bo, e, d, rfl, h1, h2, h3, h4, h5, h6, h7.mono (NatIn.mono _) hl, h8.mono (NatIn.mono _) hl, h9⟩
theorem QC.mono : Mono QC := by rintro h h' u x hl ⟨s, ao, c, m, bo, e, d, rfl, h1, h2, h3, h7, h8⟩; exact ⟨s, ao, c, m, bo, e, d, rfl, h1, h2, h3, h7.mono (NatIn.mono _) hl, h8.mono (NatIn.mono _) hl⟩
theorem dn_le (q : Rat) : lg (dn q) <= hq q := hq_dn q
theorem QC.qv {h : Mem} {u : Value} {q : Rat} (hu : QC h u q) (hn : hq q <= 68719476736) : QV h u q := by
  obtain ⟨s, ao, c, m, bo, e, d, rfl, h1, h2, h3, h7, h8⟩ := hu
  have a1 := hq_num q
  have a2 := dn_le q
  exact ⟨s, ao, c, m, bo, e, d, rfl, h1, h2, h3.1.2.1, h3.2.1, by rw [h3.1.len]; omega, by rw [h3.2.len]; omega, h7, h8, h3.val⟩
theorem QC.zero (h : Mem) : QC h (.agg #[.bool false, .slice none 0 0, .slice none 0 0]) 0 := ⟨false, none, 0, [], none, 0, [], rfl, Nat.le_refl _, Nat.le_refl _, CanQ.zero, Sl.nil _ _ _ _, Sl.nil _ _ _ _⟩
theorem QV.hq {h : Mem} {u : Value} {q : Rat} (hu : QV h u q) : hq q <= 68719476736 := by
  obtain ⟨s, ao, c, m, bo, e, d, rfl, h1, h2, h3, h4, h5, h6, h7, h8, rfl⟩ := hu
  exact qval_hq s m d _ h3 h4 h5 h6 (by omega)
theorem QV.elem : Elem QV 3 := ⟨QV.mono, by rintro h u x ⟨s, ao, c, m, bo, e, d, rfl, _⟩; rfl, by
  rintro h u x ⟨s, ao, c, m, bo, e, d, rfl, _⟩ v hv
  simp [cellsL, Value.cells] at hv
  rcases hv with rfl | rfl | rfl <;> rfl, by decide⟩
theorem QC.elem : Elem QC 3 := ⟨QC.mono, by rintro h u x ⟨s, ao, c, m, bo, e, d, rfl, _⟩; rfl, by
  rintro h u x ⟨s, ao, c, m, bo, e, d, rfl, _⟩ v hv
  simp [cellsL, Value.cells] at hv
  rcases hv with rfl | rfl | rfl <;> rfl, by decide⟩
theorem QC.num {h : Mem} {s : Bool} {ao bo : Option Addr} {n c k e : Nat} {q : Rat} (hu : QC h (.agg #[.bool s, .slice ao n c, .slice bo k e]) q) : ZC h (.agg #[.bool s, .slice ao n c]) q.num /\ NC h (.slice ao n c) q.num.natAbs /\ NC h (.slice bo k e) (dn q) := by
  obtain ⟨_, _, _, m, _, _, d, heq, h1, h2, h3, h7, h8⟩ := hu
  simp only [Value.agg.injEq, Array.mk.injEq, List.cons.injEq, Value.bool.injEq, Value.slice.injEq, and_true] at heq
  obtain ⟨rfl, ⟨rfl, rfl, rfl⟩, rfl, rfl, rfl⟩ := heq
  exact ⟨⟨_, _, _, _, rfl, h1, h3.1, h7⟩, ⟨_, _, _, rfl, h1, h3.1.2, h7⟩, ⟨_, _, _, rfl, h2, h3.2, h8⟩⟩
theorem QC.shape {h : Mem} {u : Value} {q : Rat} (hu : QC h u q) : ∃ s ao n c bo k e, u = .agg #[.bool s, .slice ao n c, .slice bo k e] := by
  obtain ⟨s, ao, c, m, bo, e, d, rfl, _⟩ := hu; exact ⟨_, _, _, _, _, _, _, rfl⟩
theorem QV.shape {h : Mem} {u : Value} {q : Rat} (hu : QV h u q) : ∃ s ao n c bo k e, u = .agg #[.bool s, .slice ao n c, .slice bo k e] := by
  obtain ⟨s, ao, c, m, bo, e, d, rfl, _⟩ := hu; exact ⟨_, _, _, _, _, _, _, rfl⟩
theorem QC.of {h : Mem} {s : Bool} {ao bo : Option Addr} {n c k e : Nat} {q : Rat} (h1 : ZC h (.agg #[.bool s, .slice ao n c]) q.num) (h2 : NC h (.slice bo k e) (dn q)) : QC h (.agg #[.bool s, .slice ao n c, .slice bo k e]) q := by
  obtain ⟨_, _, _, m, heq, a1, a2, a3⟩ := h1
  simp only [Value.agg.injEq, Array.mk.injEq, List.cons.injEq, Value.bool.injEq, Value.slice.injEq, and_true] at heq
  obtain ⟨rfl, rfl, rfl, rfl⟩ := heq
  obtain ⟨_, _, d, heq, b1, b2, b3⟩ := h2
  simp only [Value.slice.injEq] at heq
  obtain ⟨rfl, rfl, rfl⟩ := heq
  exact ⟨_, _, _, _, _, _, _, rfl, a1, b1, ⟨a2, b2⟩, a3, b3⟩
theorem NC.len0 {h : Mem} {ao : Option Addr} {n c k : Nat} (hu : NC h (.slice ao n c) k) : n = 0 ↔ k = 0 := by
  obtain ⟨_, _, d, heq, b1, b2, b3⟩ := hu
  simp only [Value.slice.injEq] at heq
  obtain ⟨rfl, rfl, rfl⟩ := heq
  exact canon_len0 b2
theorem dn_zero (q : Rat) : dn q = 0 ↔ q.den = 1 := by
  unfold dn; split
  · simp [*]
  · have := q.den_nz; omega
end Go.Rep
namespace Go.Proofs.YtnnpfhoigmegcaaGreat
open Go.RowKit Go.Rep Go.Lim
theorem stRat : StructT Tryz.prog 41 3 := by
  have h : (Tryz.prog.info? 41).map (fun i => (i.zero, i.size, i.bytes)) = some (some (.agg #[.bool false, .slice none 0 0, .slice none 0 0]), 3, 56) := by kernel_rfl
  obtain ⟨ti, h1, _, h2, _⟩ := info_parts h
  exact ⟨_, ti, Tryz.underlying41, h1, h2⟩
theorem one3 (s : Bool) (ao bo : Option Addr) (n c k e : Nat) : ∀ v ∈ (#[Value.bool s, .slice ao n c, .slice bo k e] : Array Value).toList, v.oneCell' = true := by
  intro v hv; simp at hv; rcases hv with rfl | rfl | rfl <;> rfl
theorem qone (X : Nat -> Bool) (w : World) (hX : HX X w) : Calls Tryz.prog 294 #[] w (ROut X w NC 1) := by
  have h := NC.lit hX 1 110 (by omega) (by omega)
  have hE : Ext w (w.alloc (.cells #[.int .u32 ((1 : Nat) : Int)] 110)) := (ExtX.refl w).alloc _
  go_enter Tryz.func294, Tryz.ntmps294
  go_wp2_with fail
  go_ret
  exact ⟨hE, _, rfl, h⟩
theorem qden (X : Nat -> Bool) (w : World) (u : Value) (q : Rat) (hX : HX X w) (hu : QC (mk X w) u q) : Calls Tryz.prog 235 #[u] w (ROut X w NC q.den) := by
  obtain ⟨s, ao, n, c, bo, k, e, rfl⟩ := hu.shape
  obtain ⟨W, hW, hE, b0, hz⟩ := boxes1 w #[.bool s, .slice ao n c, .slice bo k e] 41
  have hXW : HX X W := hX.ext hE
  have hd := mkx NC.mono hu.num.2.2 hE
  have hl := hd.len0
  rw [dn_zero] at hl
  obtain ⟨b, hb⟩ : ∃ b, w.heap.size = b := ⟨_, rfl⟩
  rw [hb] at b0 hz
  have k02 := b0.cell 2 rfl
  by_cases h0 : k = 0
  · have hf := hid (hl.1 h0)
    subst h0
    clear hl hd
    go_enter Tryz.func235, Tryz.ntmps235
    go_wp2_with fail
    refine (qone X W hXW).mono ?_
    rintro e w5 ⟨hE5, u5, rfl, hu5⟩
    go_wp2_with fail
    go_ret
    exact ⟨hE.trans hE5, _, rfl, by rw [hf.out]; exact hu5⟩
  · have hf : Hid (dn q = q.den) := hid (by unfold dn; rw [if_neg (fun h => h0 (hl.2 h))])
    have hI : ((k : Int) == 0) = false := beqF (by omega)
    clear hl h0
    go_enter Tryz.func235, Tryz.ntmps235
    go_wp2_with fail
    go_ret
    exact ⟨hE, _, rfl, by rw [<- hf.out]; exact hd⟩
end Go.Proofs.YtnnpfhoigmegcaaGreat
namespace Go.Rep
open Go.RowKit Go.Lim
theorem QV.agg : ∀ h u y, QV h u y -> ∃ cs, u = .agg cs := by rintro h u x ⟨s, ao, c, m, bo, e, d, rfl, _⟩; exact ⟨_, rfl⟩
theorem QC.agg : ∀ h u y, QC h u y -> ∃ cs, u = .agg cs := by rintro h u x ⟨s, ao, c, m, bo, e, d, rfl, _⟩; exact ⟨_, rfl⟩
def Shaped (R : Mem -> Value -> Rat -> Prop) : Prop := ∀ h u q, R h u q -> ∃ s ao n c bo k e, u = .agg #[.bool s, .slice ao n c, .slice bo k e]
theorem QC.shaped : Shaped QC := fun _ _ _ h => h.shape
theorem QV.shaped : Shaped QV := fun _ _ _ h => h.shape
theorem Sl.rat {R : Mem -> Value -> Rat -> Prop} (hR : Shaped R) {X : Nat -> Bool} {w : World} {ao : Option Addr} {l : List Rat} (s : Sl R 3 (mk X w) ao l) (i : Nat) (hi : i < l.length) :
    ∃ g o sg a n c d k e, adr ao (i * 3) = ⟨g, o, none⟩ /\ X g = false /\ Hid (∀ Y W', ExtX Y w W' -> Y g = false -> W'.cell? ⟨g, o, none⟩ = some (.bool sg) /\ W'.cell? ⟨g, o + 1, none⟩ = some (.slice a n c) /\ W'.cell? ⟨g, o + 2, none⟩ = some (.slice d k e)) /\ R (mk X w) (.agg #[.bool sg, .slice a n c, .slice d k e]) l[i] := by
  obtain ⟨u, h1, h2, h3⟩ := s.2 i hi
  obtain ⟨sg, a, n, c, d, k, e, rfl⟩ := hR _ _ _ h3
  have c0 := h2 0 (by simp [Value.cells])
  have c1 := h2 1 (by simp [Value.cells])
  have c2 := h2 2 (by simp [Value.cells])
  refine ⟨(adr ao (i * 3)).block, (adr ao (i * 3)).off, sg, a, n, c, d, k, e, rfl, ?_, hid fun Y W' hE hY => ⟨?_, ?_, ?_⟩, h3⟩
  · cases hx : X (adr ao (i * 3)).block
    · rfl
    · have c9 : mk X w (adr ao (i * 3)) = some (.bool sg) := c0
      simp [mk, hx] at c9
  · exact hE.cellY (mk_cell c0) hY
  · exact hE.cellY (mk_cell c1) hY
  · exact hE.cellY (mk_cell c2) hY
abbrev RC : Mem -> Value -> List Rat -> Prop := SlV QC 3
abbrev RV : Mem -> Value -> List Rat -> Prop := SlV QV 3
abbrev MC : Mem -> Value -> List (List Rat) -> Prop := SlV RC 1
abbrev MV : Mem -> Value -> List (List Rat) -> Prop := SlV RV 1
theorem RC.mono : Mono RC := SlV.mono QC.mono 3
theorem RV.mono : Mono RV := SlV.mono QV.mono 3
theorem MC.mono : Mono MC := SlV.mono RC.mono 1
theorem MV.mono : Mono MV := SlV.mono RV.mono 1
theorem RC.elem : Elem RC 1 := SlV.elem QC.elem
theorem RV.elem : Elem RV 1 := SlV.elem QV.elem
def BR (B : Nat) (l : List Rat) : Prop := ∀ q ∈ l, hq q <= B
def BM (B : Nat) (m : List (List Rat)) : Prop := ∀ r ∈ m, BR B r
theorem Sl.qv {h : Mem} {ao : Option Addr} {l : List Rat} (s : Sl QC 3 h ao l) (hb : BR 68719476736 l) : Sl QV 3 h ao l :=
  ⟨s.1, fun i hi => let ⟨u, h1, h2, h3⟩ := s.2 i hi; ⟨u, h1, h2, h3.qv (hb _ (List.getElem_mem _))⟩⟩
theorem RC.rv {h : Mem} {u : Value} {l : List Rat} (s : RC h u l) (hb : BR 68719476736 l) : RV h u l := by
  obtain ⟨ao, c, rfl, h1, h2⟩ := s
  exact ⟨ao, c, rfl, h1, h2.qv hb⟩
theorem Sl.row {R : Mem -> Value -> Rat -> Prop} {X : Nat -> Bool} {w : World} {ao : Option Addr} {m : List (List Rat)} (s : Sl (SlV R 3) 1 (mk X w) ao m) (i : Nat) (hi : i < m.length) :
    ∃ a c, X (adr ao i).block = false /\ Hid (∀ Y W', ExtX Y w W' -> Y (adr ao i).block = false -> W'.cell? (adr ao i) = some (.slice a m[i].length c)) /\ m[i].length <= c /\ Sl R 3 (mk X w) a m[i] := by
  obtain ⟨u, h1, a, c, rfl, h2, h3⟩ := s.cell SlV.one i hi
  refine ⟨a, c, ?_, hid fun Y W' hE hY => hE.cellY (mk_cell h1) hY, h2, h3⟩
  cases hx : X (adr ao i).block
  · rfl
  · simp [mk, hx] at h1
end Go.Rep
namespace Go.Proofs.YtnnpfhoigmegcaaGreat
open Go.RowKit Go.Rep Go.Lim
theorem slRat : SliceT Tryz.prog 26 41 3 56 (.agg #[.bool false, .slice none 0 0, .slice none 0 0]) := ⟨Tryz.underlying26, by kernel_rfl⟩
theorem slRats : SliceT Tryz.prog 25 26 1 24 (.slice none 0 0) := ⟨Tryz.underlying25, by kernel_rfl⟩
theorem infRats : (Tryz.prog.info? 26).map (fun i => (i.zero, i.size, i.bytes)) = some (some (.slice none 0 0), 1, 24) := by kernel_rfl
theorem tyRats : TyI Tryz.prog 26 1 := let ⟨i, h, _, h2, _⟩ := info_parts infRats; ⟨i, h, h2⟩
theorem tyRat : TyI Tryz.prog 41 3 := let ⟨_, ti, _, h2, h3⟩ := stRat; ⟨ti, h2, h3⟩
end Go.Proofs.YtnnpfhoigmegcaaGreat
namespace Go.Lin
open Go.Lim
def dotN (l m : List Rat) : Nat -> Rat
  | 0 => 0
  | k + 1 => dotN l m k + l.getD k 0 * m.getD k 0
def dotL (l m : List Rat) : Rat := dotN l m l.length
theorem dotN_sm (l m : List Rat) (k : Nat) : dotN l m k = sm k fun q => l.getD q 0 * m.getD q 0 := by
  induction k with
  | zero => rfl
  | succ k ih => unfold dotN sm; rw [ih]
end Go.Lin
namespace Go.Lin
open Go.Lim
noncomputable def rankV (m : Mat) (c : Nat) : Nat := (eN m c).2.1.length
theorem rankV_red (m : Mat) (c : Nat) : rankV m c = (redP m c).2.length := rfl
end Go.Lin
namespace Go.Rep
open Go.RowKit
theorem old_un {α : Type} {R : Mem -> Value -> α -> Prop} (hR : Mono R) {X : Nat -> Bool} {w w' : World} {oo : Option Addr} {u : Value} {x : α} (h : R (mk X w) u x) (hE : Ext w w') (hb : ∀ j, j < w.heap.size -> ob oo j = false) : R (mk (un X oo) w') u x :=
  hR _ _ _ _ (mk_over hE (fun k _ hk => by simp [noY] at hk) fun j hk hz => by simpa [un, hb j hk] using hz) h
section
variable {P : Program} {ops : Array Oper} {Q : Exit -> Act -> World -> Prop} {a : Act} {w : World}
variable {α : Type} {R : Mem -> Value -> α -> Prop} {sz : Nat} {X : Nat -> Bool} {base : Nat} {e : TypeId} {ao : Option Addr} {cap : Nat} {l : List α}
theorem step_append1 {o : Oper} {K : Act -> World -> Prop} {E : Prop} {t by_ : Nat} {z : Value} {arr : Array Value} {s x : Operand}
    (hg : o.guard = none) (hop : o.op = Op.call { callee := Callee.builtin Builtin.append, args := #[s, x], argTypes := #[t, t] }) (T : SliceT P t e sz by_ z) (hzs : z.cells.size = sz) (hR : Elem R sz) (hbase : base <= w.heap.size) (hX : ∀ k, X k = true -> k < w.heap.size) (n : Nat) (hn : l.length = n)
    (hs : a.eval s = .slice ao n cap) (hx : a.eval x = .slice (some ⟨w.heap.size, 0, none⟩) 1 1) (h : OL R sz X base e w ao cap l)
    (u : Value) (y : α) (harr : arr = u.cells) (hu : R (mk (un X ao) w) u y) (hroom : (n + 1) * by_ <= 140737488355328) (hmax : n + 1 <= 9223372036854775807)
    (hK : ∀ ao' cap' w', OL R sz X base e w' ao' cap' (l ++ [y]) -> ExtX (ob ao) w w' -> (ao' = ao \/ ∃ g, ao' = some ⟨g, 0, none⟩ /\ w.heap.size <= g) -> K (a.put o.dst (.slice ao' (n + 1) cap')) w') :
    if Region.wanted o (yielded ops a.tmps) = true then Oper.wp P o a (w.alloc (.cells arr e)) K Q else E := by
  have hw : Region.wanted o (yielded ops a.tmps) = true := by simp [Region.wanted, hg]
  rw [if_pos hw]
  subst hn
  have hE : Ext w (w.alloc (.cells arr e)) := (ExtX.refl w).alloc _
  have hsz : w.heap.size + 1 = (w.alloc (.cells arr e)).heap.size := by simp
  obtain ⟨ao', cap', w', hr, h2, h3, h4⟩ := (h.ext0 hR hE).run_append (P := P) T hzs hR (by omega) (fun k hk => by have := hX k hk; omega) (some ⟨w.heap.size, 0, none⟩) 1 [u] [y] (at_new w arr e u harr) rfl
    (fun i hi _ => by have : i = 0 := by simpa using hi
                      subst this; exact hR.mono _ _ _ _ (mk_ext hE) hu) (by simpa using hroom) (by simpa using hmax) o.type
  unfold Oper.wp execOp
  rw [hop]
  simp only [resolve, invoke, builtin, Sem.run_bind, Sem.run_pure, Result.andThen_ok, List.map_toArray, List.map_cons, List.map_nil, hs, hx]
  rw [show ([y] : List α).length = 1 from rfl] at hr
  rw [hr]
  have := hK ao' cap' w' h2 ((ExtX.of hE).trans h3) (by
    rcases h4 with h4 | ⟨g, h4, h5⟩
    · exact .inl h4
    · exact .inr ⟨g, h4, by omega⟩)
  rw [show (l ++ [y]).length = l.length + 1 from by simp]
  exact this
end
end Go.Rep
