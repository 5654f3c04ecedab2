/- law42.split. What comes back is some short list of leaves. Conditions: small numbers. -/
import Derived.Test.YtblifbnbjffgkaaTape3
import Derived.Test.YtblifbnbjffgkaaFull
import Derived.Test.YtblifbnbjffgkaaCover1
namespace Go.Proofs.Ytblifbnbjffgkaa
open Go.RowKit Go.Rep Go.Lim

/-- A list of leaves comes back. -/
def LeavesOut (X : Nat → Bool) (tb : Nat) (w : World) (m N : Nat) (e : Ending) (w' : World) : Prop := ExtX (tbm tb) w w' ∧ ∃ (ao : Option Addr) (L : List Leaf) (cap : Nat), e = .returned (.slice ao L.length cap) ∧ L.length ≤ cap ∧ L.length ≤ m ∧ Hid (∀ x ∈ L, x.1.length ≤ N ∧ x.2.length ≤ N) ∧ TapeR (un X ao) tb w' ∧ OL LeafR 2 X w.heap.size 26 w' ao cap L

theorem leaf_lit (X : Nat → Bool) (w : World) (I O : List Int) (a1 a2 : Option Addr) (c1 c2 : Nat) (e : TypeId) (hX : ∀ k, X k = true → k < w.heap.size) (hc1 : I.length ≤ c1) (hc2 : O.length ≤ c2) (h1 : Sl (IntIn .i64) 1 (mk X w) a1 I) (h2 : Sl (IntIn .i64) 1 (mk X w) a2 O) :
    OL LeafR 2 X w.heap.size e (w.alloc (.cells #[.slice a1 I.length c1, .slice a2 O.length c2] e)) (some ⟨w.heap.size, 0, none⟩) 1 [(I, O)] :=
  OL.lit LeafR.elem hX (Nat.le_refl _) [.agg #[.slice a1 I.length c1, .slice a2 O.length c2]] [(I, O)] _ (by simp [cellsL, Value.cells]) rfl
    (fun i hi _ => by match i, hi with
                      | 0, _ => exact ⟨a1, c1, a2, c2, rfl, hc1, hc2, h1, h2⟩) (by simp)

theorem _root_.Go.Rep.Sl.noneLen {α : Type} {R : Mem → Value → α → Prop} {sz : Nat} {h : Mem} {ao : Option Addr} {l : List α} (s : Sl R sz h ao l) (e : ao = none) : l.length = 0 := by
  by_cases h0 : 0 < l.length
  · obtain ⟨b, off, hb⟩ := s.1 h0
    rw [e] at hb; simp at hb
  · omega

theorem _root_.Go.Rep.Sl.oldY {α : Type} {R : Mem → Value → α → Prop} (hR : Mono R) {sz : Nat} {X Y : Nat → Bool} {w w' : World} {oo ao : Option Addr} {l : List α} (s : Sl R sz (mk X w) ao l) (hE : ExtX Y w w') (hY : ∀ k, Y k = true → X k = true) (hb : ∀ j, j < w.heap.size → ob oo j = false) : Sl R sz (mk (un X oo) w') ao l :=
  s.mono hR (mk_over hE (fun k _ hk => hY k hk) fun j hk hz => by simpa [un, hb j hk] using hz)

theorem app_all {α : Type} {P : α → Prop} {a b : List α} (h1 : Hid (∀ x ∈ a, P x)) (h2 : Hid (∀ x ∈ b, P x)) : Hid (∀ x ∈ a ++ b, P x) := hid fun x hx => by
  rcases List.mem_append.1 hx with hx | hx
  · exact h1.out x hx
  · exact h2.out x hx

theorem split_any (tb N H : Nat) (hN : N ≤ 20) (hH : H ≤ 1000) (k : Nat) : ∀ (X : Nat → Bool) (io oo : Option Addr) (I O : List Int) (ci co a_ : Nat) (w : World), Hid (N = a_ + k) → TapeR X tb w → (∀ k, X k = true → k < w.heap.size) → I.length ≤ a_ → O.length ≤ a_ → I.length ≤ ci → O.length ≤ co →
    Sl (IntIn .i64) 1 (mk X w) io I → Sl (IntIn .i64) 1 (mk X w) oo O →
    Calls Try.prog 21 #[.pointer (some ⟨tb, 0, none⟩), .int .i64 (N : Int), .int .i64 (H : Int), .slice io I.length ci, .slice oo O.length co, .int .i64 (a_ : Int)] w (LeavesOut X tb w (2 ^ k) N) := by
  induction k with
  | zero =>
    intro X io oo I O ci co a_ w ha ht hX hI hO hci hco hsi hso
    have hk : a_ ≤ N := by have := ha.out; omega
    have hp : Hid (1 ≤ 2 ^ 0) := hid (by decide)
    have d3 : ((a_ : Int) == (N : Int)) = true := beqT (by have := ha.out; omega)
    by_cases h1 : (H : Int) < I.length
    · go_enter Try.func21, Try.ntmps21
      go_wp2_with fail
      go_ret
      exact ⟨ExtX.refl _, none, [], 0, rfl, by simp, by simp, hid (by simp), ht.none, OL.nil _ _ _ _ _ _⟩
    by_cases h2 : (N : Int) - H < O.length
    · go_enter Try.func21, Try.ntmps21
      go_wp2_with fail
      go_ret
      exact ⟨ExtX.refl _, none, [], 0, rfl, by simp, by simp, hid (by simp), ht.none, OL.nil _ _ _ _ _ _⟩
    have hEt : ExtX (tbm tb) w w := ExtX.refl _
    have htt := ht
    have hXt := hX
    have hit := hsi
    have hot := hso
    go_enter Try.func21, Try.ntmps21
    go_wp2_with fail
    go_ret; exact ⟨hEt.alloc _, _, [(I, O)], _, rfl, by simp, by simp, hid (by simp; omega), htt.old ((ExtX.refl _).alloc _) (ob_new _), (leaf_lit X _ I O io oo ci co _ hXt hci hco hit hot).base_le hEt.size⟩
  | succ k ih =>
    intro X io oo I O ci co a_ w ha ht hX hI hO hci hco hsi hso
    have hp : Hid (1 ≤ 2 ^ (k + 1) ∧ 2 ^ (k + 1) = 2 ^ k + 2 ^ k ∧ 2 ^ k ≤ 1048576) := hid ⟨Nat.pow_pos (by omega), by rw [Nat.pow_succ]; omega, Nat.le_trans (Nat.pow_le_pow_right (by omega) (show k ≤ 20 by have := ha.out; omega)) (by decide)⟩
    have hk : a_ < N := by have := ha.out; omega
    have d3 : ((a_ : Int) == (N : Int)) = false := beqF (by omega)
    by_cases h1 : (H : Int) < I.length
    · go_enter Try.func21, Try.ntmps21
      go_wp2_with fail
      go_ret
      exact ⟨ExtX.refl _, none, [], 0, rfl, by simp, by simp, hid (by simp), ht.none, OL.nil _ _ _ _ _ _⟩
    by_cases h2 : (N : Int) - H < O.length
    · go_enter Try.func21, Try.ntmps21
      go_wp2_with fail
      go_ret
      exact ⟨ExtX.refl _, none, [], 0, rfl, by simp, by simp, hid (by simp), ht.none, OL.nil _ _ _ _ _ _⟩
    by_cases h3 : 0 < I.length
    · by_cases h4 : H ≤ I.length
      · have d5 : ((I.length : Int) == (H : Int)) = true := beqT (by omega)
        go_enter Try.func21, Try.ntmps21
        go_wp2_with fail
        refine (tbool_any X tb 4 _ ht (by omega) (by omega)).mono ?_
        rintro e wt ⟨hEt, htt, b, rfl⟩
        have hXt : ∀ k, X k = true → k < wt.heap.size := fun k hk => Nat.lt_of_lt_of_le (hX k hk) hEt.size
        have hit := hsi.mono (IntIn.mono _) (mk_mono hEt (tbm_sub ht.1))
        have hot := hso.mono (IntIn.mono _) (mk_mono hEt (tbm_sub ht.1))
        cases b
        · go_wp2_with fail
          (go_ret; exact ⟨hEt.alloc _, _, [(I, O)], _, rfl, by simp, by simpa using hp.out.1, hid (by simp; omega), htt.old ((ExtX.refl _).alloc _) (ob_new _), (leaf_lit X _ I O io oo ci co _ hXt hci hco hit hot).base_le hEt.size⟩)
        · go_wp2_with fail
          (go_ret; exact ⟨hEt.alloc _, _, [(I, O)], _, rfl, by simp, by simpa using hp.out.1, hid (by simp; omega), htt.old ((ExtX.refl _).alloc _) (ob_new _), (leaf_lit X _ I O io oo ci co _ hXt hci hco hit hot).base_le hEt.size⟩)
      · have d5 : ((I.length : Int) == (H : Int)) = false := beqF (by omega)
        go_enter Try.func21, Try.ntmps21
        go_wp2_with fail
        refine (tbool_any X tb 4 _ ht (by omega) (by omega)).mono ?_
        rintro e wt ⟨hEt, htt, b, rfl⟩
        have hXt : ∀ k, X k = true → k < wt.heap.size := fun k hk => Nat.lt_of_lt_of_le (hX k hk) hEt.size
        have hit := hsi.mono (IntIn.mono _) (mk_mono hEt (tbm_sub ht.1))
        have hot := hso.mono (IntIn.mono _) (mk_mono hEt (tbm_sub ht.1))
        cases b
        · go_wp2_with (first | ((with_reducible show wpList _ _ _ (⟨_, .slice _ _ _ _ _, _, _, _, _⟩ :: _) _ _); refine st_full slInt I.length rfl rfl rfl rfl rfl hci ?_) | (at_builtin; refine st_append_full slInt rfl (IntIn.elem .i64) hXt rfl rfl (Nat.le_refl _) (fun e => ⟨hit.noneLen e, hit.noneLen e⟩) hit (.int .i64 a_) (a_ : Int) rfl rfl (by omega) (by omega) ?_; intro ao1 co1 w1 hO1 hE1))
          (have hih := ih X ao1 oo (I ++ [(a_ : Int)]) O co1 co (a_ + 1) w1 (hid (by have := ha.out; omega)) (htt.ext hE1) (fun k hk => Nat.lt_of_lt_of_le (hXt k hk) hE1.size) (by simp; omega) (by omega) hO1.lenCap hco (hO1.sl (IntIn.elem .i64)) (hot.mono (IntIn.mono _) (mk_ext hE1)); rw [show (I ++ [(a_ : Int)]).length = I.length + 1 by simp, show ((a_ + 1 : Nat) : Int) = (a_ : Int) + 1 by omega] at hih; refine hih.mono ?_; rintro e w2 ⟨hE2, s1, L1, c1, rfl, hc1, hl1, hb1, ht2, hA⟩; clear hih)
          (have hE02 := (hEt.trans (ExtX.of hE1)).trans hE2; have hX2 : ∀ k, X k = true → k < w2.heap.size := fun k hk => Nat.lt_of_lt_of_le (hX k hk) hE02.size; have hXu2 := hA.unX hX2; have hi2 := (hit.mono (IntIn.mono _) (mk_ext hE1)).oldY (IntIn.mono _) hE2 (tbm_sub ht.1) (fun j hj => hA.ob_lt hj); have ho2 := (hot.mono (IntIn.mono _) (mk_ext hE1)).oldY (IntIn.mono _) hE2 (tbm_sub ht.1) (fun j hj => hA.ob_lt hj); have hl1' : L1.length ≤ 1048576 := Nat.le_trans hl1 hp.out.2.2; have hl1h := hid hl1; clear hl1 hO1)
          (go_wp2_with (first | ((with_reducible show wpList _ _ _ (⟨_, .slice _ _ _ _ _, _, _, _, _⟩ :: _) _ _); refine st_full slInt O.length rfl rfl rfl rfl rfl hco ?_) | (at_builtin; refine st_append_full slInt rfl (IntIn.elem .i64) hXu2 rfl rfl (Nat.le_refl _) (fun e => ⟨ho2.noneLen e, ho2.noneLen e⟩) ho2 (.int .i64 a_) (a_ : Int) rfl rfl (by omega) (by omega) ?_; intro ao3 co3 w3 hO3 hE3)))
          (have hih := ih (un X s1) io ao3 I (O ++ [(a_ : Int)]) ci co3 (a_ + 1) w3 (hid (by have := ha.out; omega)) (ht2.ext hE3) (fun k hk => Nat.lt_of_lt_of_le (hXu2 k hk) hE3.size) (by omega) (by simp; omega) hci hO3.lenCap (hi2.mono (IntIn.mono _) (mk_ext hE3)) (hO3.sl (IntIn.elem .i64)); rw [show (O ++ [(a_ : Int)]).length = O.length + 1 by simp, show ((a_ + 1 : Nat) : Int) = (a_ : Int) + 1 by omega] at hih; refine hih.mono ?_; rintro e w4 ⟨hE4, s2, L2, c2, rfl, hc2, hl2, hb2, ht4, hB⟩; clear hih)
          (have hA4 := (hA.ext0 LeafR.elem hE3).ext LeafR.elem hE4 (fun k _ hk => tbm_sub ht.1 k hk) (fun _ _ h => h); have hE04 := (hE02.trans (ExtX.of hE3)).trans hE4; have hX4 : ∀ k, X k = true → k < w4.heap.size := fun k hk => Nat.lt_of_lt_of_le (hX k hk) hE04.size; have hsB := hB.sl LeafR.elem; have hl2' : L2.length ≤ 1048576 := Nat.le_trans hl2 hp.out.2.2; have hl2h := hid hl2; clear hl2; have hb4 : w1.heap.size ≤ w4.heap.size := Nat.le_trans hE2.size (Nat.le_trans hE3.size hE4.size); go_wp2_with (at_builtin; refine st_appendl slLeaf rfl LeafR.elem hb4 hX4 L2 rfl rfl hA4 hsB (by omega) (by omega) ?_; intro s5 c5 w5 hC hE5 hor))
          (have ht5 := (ht4.unX (un_left ht.1)).unstep (hA4.not_ob ht.1) hE5 hor; have hb01 : w.heap.size ≤ w1.heap.size := Nat.le_trans hEt.size hE1.size; have hE05 := hE04.own hA4 hb01 hE5; go_ret; exact ⟨hE05, s5, L1 ++ L2, c5, ret_slice List.length_append.symm, hC.lenCap, by have h1 := hl1h.out; have h2 := hl2h.out; have h3 := hp.out.2.1; rw [List.length_append]; omega, app_all hb1 hb2, ht5, hC.base_le hb01⟩)
        · go_wp2_with fail
          (go_ret; exact ⟨hEt.alloc _, _, [(I, O)], _, rfl, by simp, by simpa using hp.out.1, hid (by simp; omega), htt.old ((ExtX.refl _).alloc _) (ob_new _), (leaf_lit X _ I O io oo ci co _ hXt hci hco hit hot).base_le hEt.size⟩)
    · by_cases h4 : H ≤ I.length
      · have d5 : ((I.length : Int) == (H : Int)) = true := beqT (by omega)
        have hEt : ExtX (tbm tb) w w := ExtX.refl _
        have htt := ht
        have hXt := hX
        have hit := hsi
        have hot := hso
        go_enter Try.func21, Try.ntmps21
        go_wp2_with fail
        (go_ret; exact ⟨hEt.alloc _, _, [(I, O)], _, rfl, by simp, by simpa using hp.out.1, hid (by simp; omega), htt.old ((ExtX.refl _).alloc _) (ob_new _), (leaf_lit X _ I O io oo ci co _ hXt hci hco hit hot).base_le hEt.size⟩)
      · have d5 : ((I.length : Int) == (H : Int)) = false := beqF (by omega)
        have hEt : ExtX (tbm tb) w w := ExtX.refl _
        have htt := ht
        have hXt := hX
        have hit := hsi
        have hot := hso
        go_enter Try.func21, Try.ntmps21
        go_wp2_with (first | ((with_reducible show wpList _ _ _ (⟨_, .slice _ _ _ _ _, _, _, _, _⟩ :: _) _ _); refine st_full slInt I.length rfl rfl rfl rfl rfl hci ?_) | (at_builtin; refine st_append_full slInt rfl (IntIn.elem .i64) hXt rfl rfl (Nat.le_refl _) (fun e => ⟨hit.noneLen e, hit.noneLen e⟩) hit (.int .i64 a_) (a_ : Int) rfl rfl (by omega) (by omega) ?_; intro ao1 co1 w1 hO1 hE1))
        (have hih := ih X ao1 oo (I ++ [(a_ : Int)]) O co1 co (a_ + 1) w1 (hid (by have := ha.out; omega)) (htt.ext hE1) (fun k hk => Nat.lt_of_lt_of_le (hXt k hk) hE1.size) (by simp; omega) (by omega) hO1.lenCap hco (hO1.sl (IntIn.elem .i64)) (hot.mono (IntIn.mono _) (mk_ext hE1)); rw [show (I ++ [(a_ : Int)]).length = I.length + 1 by simp, show ((a_ + 1 : Nat) : Int) = (a_ : Int) + 1 by omega] at hih; refine hih.mono ?_; rintro e w2 ⟨hE2, s1, L1, c1, rfl, hc1, hl1, hb1, ht2, hA⟩; clear hih)
        (have hE02 := (hEt.trans (ExtX.of hE1)).trans hE2; have hX2 : ∀ k, X k = true → k < w2.heap.size := fun k hk => Nat.lt_of_lt_of_le (hX k hk) hE02.size; have hXu2 := hA.unX hX2; have hi2 := (hit.mono (IntIn.mono _) (mk_ext hE1)).oldY (IntIn.mono _) hE2 (tbm_sub ht.1) (fun j hj => hA.ob_lt hj); have ho2 := (hot.mono (IntIn.mono _) (mk_ext hE1)).oldY (IntIn.mono _) hE2 (tbm_sub ht.1) (fun j hj => hA.ob_lt hj); have hl1' : L1.length ≤ 1048576 := Nat.le_trans hl1 hp.out.2.2; have hl1h := hid hl1; clear hl1 hO1)
        (go_wp2_with (first | ((with_reducible show wpList _ _ _ (⟨_, .slice _ _ _ _ _, _, _, _, _⟩ :: _) _ _); refine st_full slInt O.length rfl rfl rfl rfl rfl hco ?_) | (at_builtin; refine st_append_full slInt rfl (IntIn.elem .i64) hXu2 rfl rfl (Nat.le_refl _) (fun e => ⟨ho2.noneLen e, ho2.noneLen e⟩) ho2 (.int .i64 a_) (a_ : Int) rfl rfl (by omega) (by omega) ?_; intro ao3 co3 w3 hO3 hE3)))
        (have hih := ih (un X s1) io ao3 I (O ++ [(a_ : Int)]) ci co3 (a_ + 1) w3 (hid (by have := ha.out; omega)) (ht2.ext hE3) (fun k hk => Nat.lt_of_lt_of_le (hXu2 k hk) hE3.size) (by omega) (by simp; omega) hci hO3.lenCap (hi2.mono (IntIn.mono _) (mk_ext hE3)) (hO3.sl (IntIn.elem .i64)); rw [show (O ++ [(a_ : Int)]).length = O.length + 1 by simp, show ((a_ + 1 : Nat) : Int) = (a_ : Int) + 1 by omega] at hih; refine hih.mono ?_; rintro e w4 ⟨hE4, s2, L2, c2, rfl, hc2, hl2, hb2, ht4, hB⟩; clear hih)
        (have hA4 := (hA.ext0 LeafR.elem hE3).ext LeafR.elem hE4 (fun k _ hk => tbm_sub ht.1 k hk) (fun _ _ h => h); have hE04 := (hE02.trans (ExtX.of hE3)).trans hE4; have hX4 : ∀ k, X k = true → k < w4.heap.size := fun k hk => Nat.lt_of_lt_of_le (hX k hk) hE04.size; have hsB := hB.sl LeafR.elem; have hl2' : L2.length ≤ 1048576 := Nat.le_trans hl2 hp.out.2.2; have hl2h := hid hl2; clear hl2; have hb4 : w1.heap.size ≤ w4.heap.size := Nat.le_trans hE2.size (Nat.le_trans hE3.size hE4.size); go_wp2_with (at_builtin; refine st_appendl slLeaf rfl LeafR.elem hb4 hX4 L2 rfl rfl hA4 hsB (by omega) (by omega) ?_; intro s5 c5 w5 hC hE5 hor))
        (have ht5 := (ht4.unX (un_left ht.1)).unstep (hA4.not_ob ht.1) hE5 hor; have hb01 : w.heap.size ≤ w1.heap.size := Nat.le_trans hEt.size hE1.size; have hE05 := hE04.own hA4 hb01 hE5; go_ret; exact ⟨hE05, s5, L1 ++ L2, c5, ret_slice List.length_append.symm, hC.lenCap, by have h1 := hl1h.out; have h2 := hl2h.out; have h3 := hp.out.2.1; rw [List.length_append]; omega, app_all hb1 hb2, ht5, hC.base_le hb01⟩)
end Go.Proofs.Ytblifbnbjffgkaa
