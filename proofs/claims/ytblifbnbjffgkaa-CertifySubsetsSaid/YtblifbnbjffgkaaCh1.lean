/- certify.choose. Conditions: k ≤ n ≤ 64. -/
import Derived.Test.YtblifbnbjffgkaaNat4
import Derived.Test.YtblifbnbjffgkaaComb
import Derived.Deep.RegionHeld3
import Derived.Deep.RegionLaw
import Derived.Deep.AppendLies
namespace Go.Proofs.Ytblifbnbjffgkaa
open Go.RowKit Go.Rep Go.Lim

theorem fromUint_int (X : Nat → Bool) (m : Int) (n : Nat) (w : World) (hm : m = (n : Int)) (hn : n < 4294967296) (hX : ∀ k, X k = true → k < w.heap.size) :
    Calls Try.prog 43 #[.int .u64 m] w (NatOut X w n) := by
  subst hm; exact fromUint_any X n w (by omega) hX

theorem choose_any (X : Nat → Bool) (n k : Nat) (w : World) (hk : k ≤ n) (hn : n ≤ 64) (hX : ∀ k, X k = true → k < w.heap.size) :
    Calls Try.prog 26 #[.int .i64 n, .int .i64 k] w (NatOut X w (ch n k)) := by
  go_enter Try.func26, Try.ntmps26
  go_wp2_with fail
  refine (fromUint_int X 1 1 w (by decide) (by decide) hX).mono ?_
  rintro e w1 ⟨hE1, ao1, ca1, l1, rfl, hc1, hcan1, hs1⟩
  go_wp2_with fail
  go_loopw [5, 6] (fun s c wr => ∃ (i : Nat) (ao : Option Addr) (cap : Nat) (l : List Nat), c = .int .i64 i ∧ s = .slice ao l.length cap ∧ 0 < i ∧ i ≤ k + 1 ∧ l.length ≤ cap ∧ Canon l (ch (n - k + (i - 1)) (i - 1)) ∧ Sl (NatIn .u32) 1 (mk X wr) ao l ∧ Ext w wr) (fun _ c _ => k + 1 - (intOf c).toNat)
  case atStart => exact ⟨1, ao1, ca1, l1, rfl, rfl, by decide, by omega, hc1, by rw [Nat.sub_self, ch_zero]; exact hcan1, hs1, hE1⟩
  case round =>
    clear hE1 hc1 hcan1 hs1
    obtain ⟨i, ao, cap, l, rfl, rfl, hi0, hik, hcap, hcan, hs, hE⟩ := hrel
    have hXr : ∀ k, X k = true → k < wr.heap.size := fun k hk => Nat.lt_of_lt_of_le (hX k hk) hE.size
    by_cases hlt : i ≤ k
    · have hl3 : l.length ≤ 3 := by rw [hcan.len]; exact lg_ch (by omega)
      have hst := hid (ch_step (n - k) i hi0)
      have hlg := lg_ch (n := n - k + (i - 1)) (k := i - 1) (by omega)
      generalize ch (n - k + (i - 1)) (i - 1) = c at hcan hst hlg
      go_wp2_with fail
      refine (fromUint_int X _ (n - k + i) _ (by omega) (by omega) hXr).mono ?_
      rintro e w2 ⟨hE2, ao2, ca2, l2, rfl, hc2, hcan2, hs2⟩
      have hX2 : ∀ k, X k = true → k < w2.heap.size := fun k hk => Nat.lt_of_lt_of_le (hXr k hk) hE2.size
      have hl2 : l2.length ≤ 1 := by rw [hcan2.len]; exact lg_le.2 (by rw [Nat.pow_one, B_eq]; omega)
      go_wp2_with fail
      refine (mul_any X _ _ _ _ _ _ _ (hs.mono (NatIn.mono _) (mk_ext hE2)) hs2 hcan.1 hcan2.1 (by omega) (by omega) hcap hc2 hX2 c (n - k + i) hcan.val hcan2.val).mono ?_
      rintro e w3 ⟨hE3, ao3, ca3, l3, rfl, hc3, hcan3, hs3⟩
      have hX3 : ∀ k, X k = true → k < w3.heap.size := fun k hk => Nat.lt_of_lt_of_le (hX2 k hk) hE3.size
      have hl3' : l3.length ≤ 4 := by
        rw [hcan3.len]
        have h1 := lg_mul c (n - k + i)
        have h2 : lg (n - k + i) ≤ 1 := lg_le.2 (by rw [Nat.pow_one, B_eq]; omega)
        omega
      go_wp2_with fail
      refine (fromUint_int X _ i _ (by omega) (by omega) hX3).mono ?_
      rintro e w4 ⟨hE4, ao4, ca4, l4, rfl, hc4, hcan4, hs4⟩
      have hX4 : ∀ k, X k = true → k < w4.heap.size := fun k hk => Nat.lt_of_lt_of_le (hX3 k hk) hE4.size
      have hl4 : l4.length ≤ 1 := by rw [hcan4.len]; exact lg_le.2 (by rw [Nat.pow_one, B_eq]; omega)
      go_wp2_with fail
      refine (div1_any X _ _ _ _ _ _ _ (hs3.mono (NatIn.mono _) (mk_ext hE4)) hs4 hcan3.1 hcan4.1 (by omega) (by omega) hc3 hc4 hX4 _ _ hcan3.val hcan4.val hi0 (by omega)).mono ?_
      rintro e w5 ⟨hE5, ao5, ca5, l5, bo5, cb5, m5, rfl, hc5, hcan5, hs5, _, _, _⟩
      go_wp2_with fail
      go_roundw
      case rel => exact ⟨i + 1, ao5, ca5, l5, by go_num, rfl, by omega, by omega, hc5, by rw [hst.out] at hcan5; exact hcan5, hs5, (((hE.trans hE2).trans hE3).trans hE4).trans hE5⟩
      case measure => simp [intOf]; omega
    · have hik' : i = k + 1 := by omega
      subst hik'
      have he : n - k + (k + 1 - 1) = n := by omega
      rw [he, Nat.add_sub_cancel] at hcan
      go_wp2_with fail
      go_ret
      exact ⟨hE, ao, cap, l, rfl, hcap, hcan, hs⟩

/-- A number in a slice of digits. -/
def NumR : Mem → Value → Nat → Prop := fun h u n => ∃ ao cap l, u = .slice ao l.length cap ∧ l.length ≤ cap ∧ Canon l n ∧ Sl (NatIn .u32) 1 h ao l
theorem NumR.mono : Mono NumR := by
  rintro h h' u x hl ⟨ao, cap, l, rfl, h1, h2, h3⟩
  exact ⟨ao, cap, l, rfl, h1, h2, h3.mono (NatIn.mono _) hl⟩
theorem NumR.one : OneCell NumR := by rintro h u x ⟨ao, cap, l, rfl, _⟩; rfl
theorem NumR.elem : Elem NumR 1 := ⟨NumR.mono, by rintro h u x ⟨ao, cap, l, rfl, _⟩; rfl, by rintro h u x ⟨ao, cap, l, rfl, _⟩ c hc; simp [cellsL, Value.cells] at hc; subst hc; rfl, Nat.one_pos⟩
theorem NumR.zero (h : Mem) : NumR h (.slice none 0 0) 0 := ⟨none, 0, [], rfl, by simp, Canon.nil, Sl.nil _ _ _ _⟩

theorem rchoose_any (X : Nat → Bool) (n k : Nat) (w : World) (hk : k ≤ n) (hn : n ≤ 64) (hX : ∀ k, X k = true → k < w.heap.size) :
    Calls Try.prog 48 #[.int .i64 n, .int .i64 k] w (NatOut X w (ch n k)) := by
  have ht : decide (n < k) = false := decide_eq_false (by omega)
  have ht2 : decide ((k : Int) < 0) = false := decide_eq_false (by omega)
  go_enter Try.func48, Try.ntmps48
  go_wp2_with (at_make; refine st_make slU32s NumR.elem 0 NumR.zero X hX w.heap.size (Nat.le_refl _) (k + 1) rfl rfl (by omega) (by omega) (by omega) ?_; intro oo w1 hO1 hE1; have hX1 : ∀ k, X k = true → k < w1.heap.size := fun k hk => Nat.lt_of_lt_of_le (hX k hk) hE1.size)
  refine (rfromUint_any (un X oo) 1 w1 (by decide) (hO1.unX hX1)).mono ?_
  rintro e w2 ⟨hE2, ao1, ca1, l1, rfl, hc1, hcan1, hs1⟩
  have hO2 := hO1.ext0 NumR.elem hE2
  have hho : Hd oo (k + 1) := by have := hO2.hd; simpa using this
  go_wp2_with (first | (with_reducible refine up_ix1 slU32s (by omega) (by assumption) ?_) | ((with_reducible show wpList _ _ _ (⟨_, .store _ _ _, _, _, _, _⟩ :: _) _ _); refine st_store tyU32s NumR.elem 0 rfl rfl hO2 (by simp) _ 1 rfl ⟨ao1, ca1, l1, rfl, hc1, hcan1, hs1⟩ ?_; intro w3 hO3 hE3))
  have hE0 := (hE1.trans hE2).own hO2 (Nat.le_refl _) hE3
  go_loopw [6] (fun c wr => ∃ (i : Nat) (r : List Nat), c = .int .i64 i ∧ i ≤ n ∧ PasInv r k i k ∧ OL NumR 1 X w.heap.size 50 wr oo (k + 1) r ∧ Ext w wr) (fun c _ => n - (intOf c).toNat)
  case atStart => exact ⟨0, _, rfl, by omega, PasInv.start k, hO3, hE0⟩
  case round =>
    clear hE1 hE2 hE3 hO1 hO2 hO3 hE0 hX1 hs1
    obtain ⟨i, r, rfl, hi, hinv, hO, hE⟩ := hrel
    by_cases hlt : i < n
    · obtain ⟨wo, rfl⟩ : ∃ wo : World, wo = wr := ⟨_, rfl⟩
      go_wp2_with fail
      go_loopw [7] (fun c wr => ∃ (j : Nat) (r : List Nat), c = .int .i64 j ∧ j ≤ k ∧ PasInv r k i j ∧ OL NumR 1 X w.heap.size 50 wr oo (k + 1) r ∧ Ext w wr) (fun c _ => (intOf c).toNat)
      case atStart => exact ⟨k, r, rfl, by omega, hinv, hO, hE⟩
      case round =>
        clear hinv hO hE
        clear r
        obtain ⟨j, r, rfl, hj, hinv, hO, hE⟩ := hrel
        have hrl := hid hinv.1
        have hXr : ∀ k, X k = true → k < wr.heap.size := fun k hk => Nat.lt_of_lt_of_le (hX k hk) hE.size
        have hXu := hO.unX hXr
        by_cases hj0 : 0 < j
        · have hjl : j < r.length := by rw [hrl.out]; omega
          have hjl2 : j - 1 < r.length := by rw [hrl.out]; omega
          obtain ⟨u1, c1, f1, a1, p1, l1, rfl, hp1, hn1, hs1⟩ := hO.cell NumR.one j hjl
          obtain ⟨u2, c2, f2, a2, p2, l2, rfl, hp2, hn2, hs2⟩ := hO.cell NumR.one (j - 1) hjl2
          have hl1 : l1.length ≤ 3 := by rw [hn1.len]; exact hinv.le j hjl (by omega)
          have hl2 : l2.length ≤ 3 := by rw [hn2.len]; exact hinv.le (j - 1) hjl2 (by omega)
          have i1 : ∀ W, (Instr.indexAt 79 (.slice oo (k + 1) (k + 1)) (.int .i64 (j : Int))).run Try.prog W = .ok (.pointer (some (adr oo j))) W := run_ix1 slU32s oo (k + 1) (k + 1) .i64 j hho (by omega) rfl
          have i2 : ∀ W, (Instr.indexAt 79 (.slice oo (k + 1) (k + 1)) (.int .i64 ((j : Int) - 1))).run Try.prog W = .ok (.pointer (some (adr oo (j - 1)))) W := run_ix1 slU32s oo (k + 1) (k + 1) .i64 (j - 1) hho (by omega) (by omega)
          have ew : IntKind.i64.wrap ((j : Int) - 1) = (j : Int) - 1 := IntWalk.i64_in _ (by omega)
          go_wp2_with fail
          go_region_law (first | (go_simp; go_at_call 47; refine (radd_any (un X oo) a1 a2 l1 l2 p1 p2 wr.drew hs1 hs2 hn1.1 hn2.1 (by omega) (by omega) hXu r[j] r[j - 1] hn1.val hn2.val).mono ?_; rintro e w2 ⟨hE2, a3, p3, l3, rfl, hp3, hn3, hs3⟩; have hO2 := hO.ext0 NumR.elem (((ExtX.refl wr).drew).trans hE2); obtain ⟨u4, c4, f4, _⟩ := hO2.cell NumR.one j hjl; have k1 := hE2.cell (show wr.drew.cell? _ = _ from c1); have k2 := hE2.cell (show wr.drew.cell? _ = _ from c2); clear c4))
          all_goals
            have hO3 := hO2.set1 tyU32s NumR.elem NumR.one j hjl (.slice a3 l3.length p3) (r[j] + r[j - 1]) ⟨a3, p3, l3, rfl, hp3, hn3, hs3⟩
            have hst := hinv.step hj0 hj rfl rfl
            have hEE : Ext w w2 := (hE.drew).trans hE2
            clear k1 k2 c1 c2 f1 f2 f4 i1 i2
            go_wp2_with fail
            go_roundw
            case rel => exact ⟨j - 1, _, by go_num, by omega, hst, hO3.1, hEE.own hO2 (Nat.le_refl _) hO3.2⟩
            case measure => simp [intOf]; omega
        · have hj00 : j = 0 := by omega
          subst hj00
          go_wp2_with fail
          go_roundw
          case rel => exact ⟨i + 1, r, by go_num, by omega, hinv.next, hO, hE⟩
          case measure => simp [intOf]; omega
    · have hin : i = n := by omega
      subst hin
      have hrl := hid hinv.1
      have hkl : k < r.length := by rw [hrl.out]; omega
      obtain ⟨u1, c1, f1, a1, p1, l1, rfl, hp1, hn1, hs1⟩ := hO.cell NumR.one k hkl
      rw [hinv.done hkl] at hn1
      go_wp2_with (with_reducible refine up_ix1 slU32s (by omega) (by assumption) ?_)
      go_ret
      exact ⟨hE, a1, p1, l1, rfl, hp1, hn1, hs1.mono (NatIn.mono _) (mk_sub fun k _ hk => un_left hk)⟩
end Go.Proofs.Ytblifbnbjffgkaa
