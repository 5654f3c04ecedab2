/- The tape of choices: Subset, OddSubset. What is drawn is some list of numbers, laid in new blocks. Conditions: none beyond small ranges. -/
import Derived.Test.YtblifbnbjffgkaaTape2
import Derived.BigRegion
namespace Go.Proofs.Ytblifbnbjffgkaa
open Go.RowKit Go.Rep Go.Lim

/-- A list of numbers is drawn, of at most m. -/
def TListOut (X : Nat → Bool) (tb : Nat) (w : World) (m : Nat) (e : Ending) (w' : World) : Prop := ExtX (tbm tb) w w' ∧ ∃ (ao : Option Addr) (l : List Int) (cap : Nat), e = .returned (.slice ao l.length cap) ∧ l.length ≤ cap ∧ l.length ≤ m ∧ TapeR (un X ao) tb w' ∧ OL (IntIn .i64) 1 X w.heap.size 3 w' ao cap l

theorem TapeR.unstep {X : Nat → Bool} {tb : Nat} {w w' : World} {oo oo' : Option Addr} (h : TapeR (un X oo) tb w) (hb : ob oo tb = false) (hE : ExtX (ob oo) w w') (ho : oo' = oo ∨ ∃ g, oo' = some ⟨g, 0, none⟩ ∧ w.heap.size ≤ g) : TapeR (un X oo') tb w' := by
  have hlt := h.lt
  obtain ⟨hX, lo, l, cap, at_, h1, h2, h3, h4⟩ := h
  refine ⟨?_, lo, l, cap, at_, by rw [hE.block tb hlt hb]; exact h1, h2, h3, h4.unstep (IntIn.mono _) hE ho⟩
  have : X tb = true := by simpa [un, hb] using hX
  exact un_left this
theorem TapeR.unX {X : Nat → Bool} {tb : Nat} {w : World} {oo : Option Addr} (h : TapeR (un X oo) tb w) (hX : X tb = true) : TapeR X tb w := by
  obtain ⟨_, lo, l, cap, at_, h1, h2, h3, h4⟩ := h
  exact ⟨hX, lo, l, cap, at_, h1, h2, h3, h4.unX (IntIn.mono _)⟩
theorem un_none (X : Nat → Bool) : un X none = X := by funext k; simp [un, ob]
theorem TapeR.none {X : Nat → Bool} {tb : Nat} {w : World} (h : TapeR X tb w) : TapeR (un X none) tb w := by rw [un_none]; exact h
/-- The tape from before an owned list was made. -/
theorem TapeR.old {X : Nat → Bool} {tb : Nat} {w w' : World} {oo : Option Addr} (h : TapeR X tb w) (hE : Ext w w') (hb : ∀ j, j < w.heap.size → ob oo j = false) : TapeR (un X oo) tb w' := by
  have hlt := h.lt
  obtain ⟨hX, lo, l, cap, at_, h1, h2, h3, h4⟩ := h
  exact ⟨un_left hX, lo, l, cap, at_, by rw [hE.block tb hlt rfl]; exact h1, h2, h3, h4.old (IntIn.mono _) hE hb⟩
theorem _root_.Go.Rep.OL.not_ob {α : Type} {R : Mem → Value → α → Prop} {sz base cap : Nat} {e : TypeId} {ao : Option Addr} {l : List α} {X : Nat → Bool} {w : World} (ho : OL R sz X base e w ao cap l) {k : Nat} (hk : X k = true) : ob ao k = false := by
  have h : ∀ k, ob ao k = true → X k = false := ho.1
  cases hh : ob ao k
  · rfl
  · rw [h k hh] at hk; simp at hk

theorem ob_new (w : World) : ∀ j, j < w.heap.size → ob (some ⟨w.heap.size, 0, none⟩) j = false := fun j hj => by
  cases hh : ob (some ⟨w.heap.size, 0, none⟩) j
  · rfl
  · have : w.heap.size = j := by simpa [ob] using hh
    omega

theorem subset_any (X : Nat → Bool) (tb : Nat) (n : Int) (w : World) (ht : TapeR X tb w) (hX : ∀ k, X k = true → k < w.heap.size) (h1 : -1000 ≤ n) (hn : n ≤ 1000) :
    Calls Try.prog 38 #[.pointer (some ⟨tb, 0, none⟩), .int .i64 n] w (TListOut X tb w (max n.toNat 1)) := by
  have hsub := tbm_sub ht.1
  go_enter Try.func38, Try.ntmps38
  go_wp2_with fail
  go_loopw [5, 6] (fun s c wr => ∃ (i : Nat) (ao : Option Addr) (cap : Nat) (l : List Int), c = .int .i64 i ∧ s = .slice ao l.length cap ∧ l.length ≤ cap ∧ l.length ≤ i ∧ i ≤ n.toNat ∧ OL (IntIn .i64) 1 X w.heap.size 3 wr ao cap l ∧ TapeR (un X ao) tb wr ∧ ExtX (tbm tb) w wr) (fun _ c _ => n.toNat - (intOf c).toNat)
  case atStart => exact ⟨0, none, 0, [], rfl, rfl, Nat.zero_le _, Nat.zero_le _, Nat.zero_le _, OL.nil _ _ _ _ _ _, ht.none, ExtX.refl _⟩
  case round =>
    obtain ⟨i, ao, cap, l, rfl, rfl, hc, hli, hin, hO, htr, hE⟩ := hrel
    by_cases hlt : (i : Int) < n
    · go_wp2_with fail
      refine (tbool_any (un X ao) tb 2 _ htr (by omega) (by omega)).mono ?_
      rintro e w2 ⟨hE2, ht2, b, rfl⟩
      have hO2 := hO.ext (IntIn.elem .i64) hE2 (fun k _ hk => hsub k hk) (fun _ _ h => h)
      have hXr : ∀ k, X k = true → k < w2.heap.size := fun k hk => Nat.lt_of_lt_of_le (hX k hk) (hE.trans hE2).size
      have hE3 := hE.trans hE2
      have hbase := hE3.size
      clear hO htr hE hE2
      cases b
      · go_wp2_with fail
        go_roundw
        case rel => exact ⟨i + 1, ao, cap, l, by go_num, rfl, hc, by omega, by omega, hO2, ht2, hE3⟩
        case measure => simp [intOf]; omega
      · go_wp2_with (at_builtin; refine st_append1 slInt rfl (IntIn.elem .i64) hbase hXr rfl rfl hO2 (.int .i64 i) (i : Int) rfl rfl (by omega) (by omega) ?_; intro ao' cap' w3 hO3 hE4 hor)
        have hE5 := hE3.own hO2 (Nat.le_refl _) hE4
        have ht3 := ht2.unstep (hO2.not_ob ht.1) hE4 hor
        have hc3 := hO3.lenCap
        have hl3 : (l ++ [(i : Int)]).length ≤ i + 1 := by simp; omega
        go_roundw
        case rel => exact ⟨i + 1, ao', cap', _, by go_num, by rw [List.length_append]; rfl, hc3, hl3, by omega, hO3, ht3, hE5⟩
        case measure => simp [intOf]; omega
    · have hbase := hE.size
      have hXr : ∀ k, X k = true → k < wr.heap.size := fun k hk => Nat.lt_of_lt_of_le (hX k hk) hE.size
      by_cases h0 : l.length = 0
      · by_cases hn0 : 0 < n
        · go_wp2_with fail
          refine (next_any (un X ao) tb n _ htr (by omega)).mono ?_
          rintro e w2 ⟨hE2, ht2, m, rfl, hm⟩
          have hXr2 : ∀ k, X k = true → k < w2.heap.size := fun k hk => Nat.lt_of_lt_of_le (hXr k hk) hE2.size
          have hO2 := (lit_sl X w2 [(m : Int)] 3 _ rfl hXr2 (by simp)).base_le (b' := w.heap.size) (by have := hE2.size; omega)
          go_wp2_with fail
          go_ret
          exact ⟨(hE.trans hE2).alloc _, _, [(m : Int)], _, rfl, by simp, by simp; omega, (ht2.unX ht.1).old ((ExtX.refl _).alloc _) (ob_new _), hO2⟩
        · go_wp2_with fail
          go_ret
          exact ⟨hE, _, l, _, ret_slice h0.symm, hc, by omega, htr, hO⟩
      · go_wp2_with fail
        go_ret
        exact ⟨hE, _, l, _, rfl, hc, by omega, htr, hO⟩

theorem odds_any (X : Nat → Bool) (tb : Nat) (n : Int) (w : World) (ht : TapeR X tb w) (hX : ∀ k, X k = true → k < w.heap.size) (h1 : -1000 ≤ n) (hn : n ≤ 1000) :
    Calls Try.prog 22 #[.pointer (some ⟨tb, 0, none⟩), .int .i64 n] w (TListOut X tb w (max n.toNat 1 + 1)) := by
  have hsub := tbm_sub ht.1
  go_enter Try.func22, Try.ntmps22
  go_wp2_with fail
  refine (subset_any X tb n w ht hX h1 hn).mono ?_
  rintro e w1 ⟨hE1, ao, l, cap, rfl, hc, hl, ht1, hO⟩
  go_wp2_with fail
  refine (next_any (un X ao) tb 8 w1 ht1 (by omega)).mono ?_
  rintro e w2 ⟨hE2, ht2, m, rfl, hm⟩
  have hO2 := hO.ext (IntIn.elem .i64) hE2 (fun k _ hk => hsub k hk) (fun _ _ h => h)
  have hE3 := hE1.trans hE2
  have hbase := hE3.size
  have hX2 : ∀ k, X k = true → k < w2.heap.size := fun k hk => Nat.lt_of_lt_of_le (hX k hk) hE3.size
  have hXu := hO2.unX hX2
  have hm8 : m < 8 := by omega
  clear hO ht1 hE1 hE2 hm
  rcases (by omega : m < 4 ∨ m = 4 ∨ m = 5 ∨ m = 6 ∨ m = 7) with h | rfl | rfl | rfl | rfl
  · go_wp2_with fail
    go_ret
    exact ⟨hE3, _, l, _, rfl, hc, by omega, ht2, hO2⟩
  · go_wp2_with fail
    refine (lit_pick (un X ao) tb [n, -1, 0] _ _ _ w2 (min (-1) n) (max 0 n) ht2 hXu rfl rfl (by simp) (by simp) (hid (by simp; omega))).mono ?_
    rintro e w3 ⟨hE4, ht3, x, rfl, hx1, hx2⟩
    have hO3 := hO2.ext (IntIn.elem .i64) hE4 (fun k _ hk => hsub k hk) (fun _ _ h => h)
    have hE5 := hE3.trans hE4
    have hX3 : ∀ k, X k = true → k < w3.heap.size := fun k hk => Nat.lt_of_lt_of_le (hX k hk) hE5.size
    have hb3 := hE5.size
    go_wp2_with (at_builtin; refine st_append1 slInt rfl (IntIn.elem .i64) hb3 hX3 rfl rfl hO3 (.int .i64 x) x rfl rfl (by omega) (by omega) ?_; intro ao' cap' w4 hO4 hE6 hor)
    have ht4 := ht3.unstep (hO3.not_ob ht.1) hE6 hor
    have hE7 := hE5.own hO3 (Nat.le_refl _) hE6
    have hc4 := hO4.lenCap
    go_ret
    exact ⟨hE7, _, l ++ [x], _, ret_slice (by rw [List.length_append]; rfl), hc4, by simp; omega, ht4, hO4⟩
  · go_wp2_with fail
    go_ret
    exact ⟨hE3, _, [], 0, rfl, by simp, by simp, (ht2.unX ht.1).none, OL.nil _ _ _ _ _ _⟩
  · by_cases hl1 : 1 < l.length
    · obtain ⟨g, cur, rfl, _⟩ : ∃ g, ∃ cur, ao = some ⟨g, 0, none⟩ ∧ w2.heap[g]? = some (.cells cur 3 (0, 0)) := by
        rcases hO2.form with ⟨_, _, rfl⟩ | ⟨g, cur, rfl, _, hg, _⟩
        · simp at hl1
        · exact ⟨g, cur, rfl, hg⟩
      obtain ⟨u0, c0, f0, r0⟩ := hO2.cell (IntIn.one _) 0 (by omega)
      obtain ⟨u1, c1, f1, r1⟩ := hO2.cell (IntIn.one _) 1 (by omega)
      obtain ⟨x0, hx0⟩ : ∃ x, l[0] = x := ⟨_, rfl⟩
      obtain ⟨x1, hx1⟩ : ∃ x, l[1] = x := ⟨_, rfl⟩
      rw [hx0] at r0
      rw [hx1] at r1
      cases r0; cases r1
      clear hx0 hx1
      have c0' : w2.cell? ⟨g, 0, none⟩ = some (.int .i64 x0) := by simpa [adr] using c0
      have f0' : w2.frozen? ⟨g, 0, none⟩ = false := by simpa [adr] using f0
      have c1' : w2.cell? ⟨g, 1, none⟩ = some (.int .i64 x1) := by simpa [adr] using c1
      have f1' : w2.frozen? ⟨g, 1, none⟩ = false := by simpa [adr] using f1
      clear c0 f0 c1 f1
      obtain ⟨hOa, hEa⟩ := hO2.set1 tyInt (IntIn.elem _) (IntIn.one _) 0 (by omega) (.int .i64 x1) x1 rfl
      obtain ⟨hOb, hEb⟩ := hOa.set1 tyInt (IntIn.elem _) (IntIn.one _) 1 (by simp; omega) (.int .i64 x0) x0 rfl
      have hEc := (hEa.trans hEb).drew
      have hOc := hOb.ext0 (IntIn.elem _) (ExtX.refl _).drew
      have a0 : adr (some (⟨g, 0, none⟩ : Addr)) 0 = ⟨g, 0, none⟩ := by simp [adr]
      have a1 : adr (some (⟨g, 0, none⟩ : Addr)) 1 = ⟨g, 1, none⟩ := by simp [adr]
      rw [a0, a1] at hEc hOc
      have ht3 := ht2.unstep (hO2.not_ob ht.1) hEc (.inl rfl)
      have hE4 := hE3.own hO2 (Nat.le_refl _) hEc
      clear hOa hOb hEa hEb
      go_wp2_with fail
      go_region
      go_wp2_with fail
      go_ret
      exact ⟨hE4, _, (l.set 0 x1).set 1 x0, _, ret_slice (by simp), by simpa using hc, by simp; omega, ht3, hOc⟩
    · go_wp2_with fail
      go_ret
      exact ⟨hE3, _, l, _, rfl, hc, by omega, ht2, hO2⟩
  · go_wp2_with fail
    refine (lit_pick (un X ao) tb [-1, 0] _ _ _ w2 (-1) 0 ht2 hXu rfl rfl (by simp) (by simp) (hid (by simp))).mono ?_
    rintro e w3 ⟨hE4, ht3, x, rfl, hx1, hx2⟩
    have hO3 := hO2.ext (IntIn.elem .i64) hE4 (fun k _ hk => hsub k hk) (fun _ _ h => h)
    have hE5 := hE3.trans hE4
    have hX3 : ∀ k, X k = true → k < w3.heap.size := fun k hk => Nat.lt_of_lt_of_le (hX k hk) hE5.size
    have hb3 := hE5.size
    have hA : Ext w3 (w3.alloc (.cells #[.int .i64 x] 3)) := (ExtX.refl _).alloc _
    have hL := (lit_sl X w3 [x] 3 _ rfl hX3 (by simp)).base_le (b' := w.heap.size) hb3
    have hs := (hO3.sl (IntIn.elem .i64)).old (IntIn.mono _) hA (ob_new w3)
    have hX4 : ∀ k, X k = true → k < (w3.alloc (.cells #[.int .i64 x] 3)).heap.size := fun k hk => Nat.lt_of_lt_of_le (hX3 k hk) hA.size
    go_wp2_with (at_builtin; refine st_appendl (l := [x]) slInt rfl (IntIn.elem .i64) (Nat.le_trans hb3 hA.size) hX4 l rfl rfl hL hs (by simp; omega) (by simp; omega) ?_; intro ao' cap' w4 hO4 hE6 hor)
    have ht4 := ((ht3.unX ht.1).old hA (ob_new w3)).unstep (hL.not_ob ht.1) hE6 hor
    have hE7 := (hE5.alloc _).own hL (Nat.le_refl _) hE6
    have hc4 := hO4.lenCap
    go_ret
    exact ⟨hE7, _, [x] ++ l, _, ret_slice rfl, hc4, by simp; omega, ht4, hO4⟩
end Go.Proofs.Ytblifbnbjffgkaa
