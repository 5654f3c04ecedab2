/- law42.awake: it returns true. Conditions: none. -/
import Derived.Test.YtblifbnbjffgkaaLeaves
import Derived.Test.YtblifbnbjffgkaaCover2
namespace Go.Proofs.Ytblifbnbjffgkaa
open Go.RowKit Go.Rep Go.Lim

theorem two_leaves (X : Nat → Bool) (w : World) (I1 O1 I2 O2 : List Int) (a1 a2 a3 a4 : Option Addr) (c1 c2 c3 c4 n1 n2 n3 n4 : Nat) (e : TypeId) (hX : ∀ k, X k = true → k < w.heap.size) (hn1 : n1 = I1.length) (hn2 : n2 = O1.length) (hn3 : n3 = I2.length) (hn4 : n4 = O2.length) (h1 : I1.length ≤ c1) (h2 : O1.length ≤ c2) (h3 : I2.length ≤ c3) (h4 : O2.length ≤ c4)
    (s1 : Sl (IntIn .i64) 1 (mk X w) a1 I1) (s2 : Sl (IntIn .i64) 1 (mk X w) a2 O1) (s3 : Sl (IntIn .i64) 1 (mk X w) a3 I2) (s4 : Sl (IntIn .i64) 1 (mk X w) a4 O2) :
    OL LeafR 2 X w.heap.size e (w.alloc (.cells #[.slice a1 n1 c1, .slice a2 n2 c2, .slice a3 n3 c3, .slice a4 n4 c4] e)) (some ⟨w.heap.size, 0, none⟩) 2 [(I1, O1), (I2, O2)] := by
  subst hn1; subst hn2; subst hn3; subst hn4
  exact OL.lit LeafR.elem hX (Nat.le_refl _) [.agg #[.slice a1 I1.length c1, .slice a2 O1.length c2], .agg #[.slice a3 I2.length c3, .slice a4 O2.length c4]] [(I1, O1), (I2, O2)] _ (by simp [cellsL, Value.cells]) rfl
    (fun i hi _ => by match i, hi with
                      | 0, _ => exact ⟨a1, c1, a2, c2, rfl, h1, h2, s1, s2⟩
                      | 1, _ => exact ⟨a3, c3, a4, c4, rfl, h3, h4, s3, s4⟩) (by simp)

theorem cov1 : Hid (coverB 2 1 [([0], []), ([], [0])] = true) := hid (by decide)
theorem cov2 : Hid (coverB 2 1 [([0], []), ([1], [0])] = true) := hid (by decide)
theorem cov3 : Hid (coverB 2 1 [([0], []), ([1], [])] = false) := hid (by decide)

theorem hnoX (w : World) : ∀ k, noY k = true → k < w.heap.size := fun k hk => by simp [noY] at hk
theorem lits1 (w : World) (x : Int) (t : TypeId) : ∃ W, w.alloc (.cells #[.int .i64 x] t) = W ∧ Sl (IntIn .i64) 1 (mk noY W) (some ⟨w.heap.size, 0, none⟩) [x] ∧ W.heap.size = w.heap.size + 1 ∧ Ext w W :=
  ⟨_, rfl, (lit_sl noY w [x] t _ rfl (hnoX w) (by simp)).sl (IntIn.elem _), by simp, (ExtX.refl _).alloc _⟩

theorem awake_any (w : World) : Calls Try.prog 6 #[] w (BoolOut w true) := by
  go_enter Try.func6, Try.ntmps6
  go_wp2_with fail
  obtain ⟨w1, e1, s1, z1, x1⟩ := lits1 w 0 3
  rw [e1]
  obtain ⟨w2, e2, s2, z2, x2⟩ := lits1 w1 0 3
  rw [e2]
  have c1 := two_leaves noY w2 [0] [] [] [0] (some ⟨w.heap.size, 0, none⟩) none none (some ⟨w.heap.size + 1, 0, none⟩) 1 0 0 1 1 0 0 1 26 (hnoX _) rfl rfl rfl rfl (by simp) (by simp) (by simp) (by simp) (s1.mono (IntIn.mono _) (mk_ext x2)) (Sl.nil _ _ _ _) (Sl.nil _ _ _ _) (z1 ▸ s2)
  have hE : Ext w w2 := x1.trans x2
  have c2 := c1.sl LeafR.elem
  rw [show w2.heap.size = w.heap.size + 1 + 1 by omega] at c2
  have hE3 := hE.alloc (.cells #[.slice (some ⟨w.heap.size, 0, none⟩) 1 1, .slice none 0 0, .slice none 0 0, .slice (some ⟨w.heap.size + 1, 0, none⟩) 1 1] 26)
  refine (cover_any noY _ _ 2 2 1 _ c2 (by simp) (hid (by simp)) (hnoX _)).mono ?_
  rw [cov1.out]
  rintro e w3 ⟨hE4, rfl⟩
  have hE5 := hE3.trans hE4
  clear c1 c2 s1 s2 z1 z2 x1 x2 hE hE3 hE4
  clear e1 e2
  go_wp2_with fail
  obtain ⟨w4, e1, s1, z1, x1⟩ := lits1 w3 0 3
  rw [e1]
  obtain ⟨w5, e2, s2, z2, x2⟩ := lits1 w4 1 3
  rw [e2]
  obtain ⟨w6, e3, s3, z3, x3⟩ := lits1 w5 0 3
  rw [e3]
  have c1 := two_leaves noY w6 [0] [] [1] [0] (some ⟨w3.heap.size, 0, none⟩) none (some ⟨w3.heap.size + 1, 0, none⟩) (some ⟨w3.heap.size + 1 + 1, 0, none⟩) 1 0 1 1 1 0 1 1 26 (hnoX _) rfl rfl rfl rfl (by simp) (by simp) (by simp) (by simp) (s1.mono (IntIn.mono _) (mk_ext (x2.trans x3))) (Sl.nil _ _ _ _) ((z1 ▸ s2).mono (IntIn.mono _) (mk_ext x3)) (by have := s3; rw [z2, z1] at this; exact this)
  have hE := (x1.trans x2).trans x3
  have c2 := c1.sl LeafR.elem
  rw [show w6.heap.size = w3.heap.size + 1 + 1 + 1 by omega] at c2
  have hE3 := hE.alloc (.cells #[.slice (some ⟨w3.heap.size, 0, none⟩) 1 1, .slice none 0 0, .slice (some ⟨w3.heap.size + 1, 0, none⟩) 1 1, .slice (some ⟨w3.heap.size + 1 + 1, 0, none⟩) 1 1] 26)
  refine (cover_any noY _ _ 2 2 1 _ c2 (by simp) (hid (by simp)) (hnoX _)).mono ?_
  rw [cov2.out]
  rintro e w7 ⟨hE4, rfl⟩
  have hE7 := hE5.trans (hE3.trans hE4)
  clear c1 c2 s1 s2 s3 z1 z2 z3 x1 x2 x3 hE hE3 hE4 hE5
  clear e1 e2 e3
  go_wp2_with fail
  obtain ⟨w8, e1, s1, z1, x1⟩ := lits1 w7 0 3
  rw [e1]
  obtain ⟨w9, e2, s2, z2, x2⟩ := lits1 w8 1 3
  rw [e2]
  have c1 := two_leaves noY w9 [0] [] [1] [] (some ⟨w7.heap.size, 0, none⟩) none (some ⟨w7.heap.size + 1, 0, none⟩) none 1 0 1 0 1 0 1 0 26 (hnoX _) rfl rfl rfl rfl (by simp) (by simp) (by simp) (by simp) (s1.mono (IntIn.mono _) (mk_ext x2)) (Sl.nil _ _ _ _) (z1 ▸ s2) (Sl.nil _ _ _ _)
  have hE := x1.trans x2
  have c2 := c1.sl LeafR.elem
  rw [show w9.heap.size = w7.heap.size + 1 + 1 by omega] at c2
  have hE3 := hE.alloc (.cells #[.slice (some ⟨w7.heap.size, 0, none⟩) 1 1, .slice none 0 0, .slice (some ⟨w7.heap.size + 1, 0, none⟩) 1 1, .slice none 0 0] 26)
  refine (cover_any noY _ _ 2 2 1 _ c2 (by simp) (hid (by simp)) (hnoX _)).mono ?_
  rw [cov3.out]
  rintro e wa ⟨hE4, rfl⟩
  have hE8 := hE7.trans (hE3.trans hE4)
  clear c1 c2 s1 s2 z1 z2 x1 x2 hE hE3 hE4 hE7
  clear e1 e2
  go_wp2_with fail
  go_ret
  exact ⟨hE8, rfl⟩
end Go.Proofs.Ytblifbnbjffgkaa
