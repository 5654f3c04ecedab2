/- exact.Copy of ints, exact.Choose, ref23.Choose. Conditions: small numbers. -/
import Derived.Test.YtblifbnbjffgkaaCopy
import Derived.Test.YtblifbnbjffgkaaCombL
import Derived.Test.YtblifbnbjffgkaaFacts
import Derived.IntWalk
import Derived.BigRegion
namespace Go.Proofs.Ytblifbnbjffgkaa
open Go.RowKit Go.Rep Go.Lim

theorem copyInt_any (X : Nat → Bool) (ao : Option Addr) (l : List Int) (cap : Nat) (w : World) (hs : Sl (IntIn .i64) 1 (mk X w) ao l) (hl : l.length ≤ 1099511627776) (hX : ∀ k, X k = true → k < w.heap.size) :
    Calls Try.prog 32 #[.slice ao l.length cap] w (fun e w' => Ext w w' ∧ ∃ bo c, e = .returned (.slice bo l.length c) ∧ l.length ≤ c ∧ OL (IntIn .i64) 1 X w.heap.size 3 w' bo c l) := by
  go_enter Try.func32, Try.ntmps32
  go_wp2_with (at_builtin; refine st_copy slInt rfl (IntIn.elem .i64) hX l rfl rfl rfl hs (by omega) (by omega) ?_; intro a2 c2 w2 hC hE2)
  have hcc := hC.lenCap
  go_ret
  exact ⟨hE2, a2, c2, rfl, hcc, hC⟩

theorem ch_mono (m : Nat) : ∀ (i d : Nat), ch (m + i) i ≤ ch (m + i + d) (i + d) := by
  intro i d
  induction d with
  | zero => exact Nat.le_refl _
  | succ d ih =>
    have : ch (m + i + (d + 1)) (i + (d + 1)) = ch (m + i + d) (i + d) + ch (m + i + d) (i + d + 1) := rfl
    omega

theorem ch_sym : ∀ (n k : Nat), k ≤ n → ch n k = ch n (n - k)
  | n, 0, _ => by rw [ch_zero, Nat.sub_zero, ch_self]
  | 0, k + 1, h => by omega
  | n + 1, k + 1, h => by
    by_cases hkn : k = n
    · subst hkn; rw [Nat.sub_self, ch_zero, ch_self]
    · have h1 := ch_sym n k (by omega)
      have h2 := ch_sym n (k + 1) (by omega)
      rw [ch, h1, h2, show n + 1 - (k + 1) = (n - (k + 1)) + 1 by omega, ch, show n - k = n - (k + 1) + 1 by omega]
      omega

/-- The program's product, cut at a bound. -/
theorem echoose_any (n k : Nat) (most : Nat) (w : World) (hk : k ≤ n) (hn : n ≤ 64) (hm : 1 ≤ most) (hm2 : most ≤ 1000000) :
    Calls Try.prog 29 #[.int .i64 (n : Int), .int .i64 (k : Int), .int .i64 (most : Int)] w (fun e w' => w' = w ∧ e = .returned (.int .i64 (min (ch n k) most : Nat))) := by
  obtain ⟨K, hK⟩ : ∃ K : Nat, K = min k (n - k) := ⟨_, rfl⟩
  have hKch : Hid (ch n K = ch n k) := hid (by
    rw [hK]
    by_cases h : k ≤ n - k
    · rw [Nat.min_eq_left h]
    · rw [Nat.min_eq_right (by omega), ← ch_sym n k hk])
  have hKn : K ≤ n := by omega
  go_enter Try.func29, Try.ntmps29
  go_upto_region 3 with (fail)
  go_cut [1] (fun s wx => wx = w ∧ s = .int .i64 (K : Int))
  case first =>
    go_wp2_with fail
    all_goals go_meet
    all_goals case rel => exact ⟨rfl, congrArg (Value.int .i64) (by omega)⟩
  case rest =>
    obtain ⟨rfl, rfl⟩ := hcut
    clear hK hk
    go_wp2_with fail
    go_loop [7, 8] (fun s c => ∃ (i : Nat), c = .int .i64 i ∧ s = .int .i64 (ch (n - K + (i - 1)) (i - 1) : Nat) ∧ 0 < i ∧ i ≤ K + 1 ∧ Hid (ch (n - K + (i - 1)) (i - 1) ≤ most)) (fun _ c => K + 1 - (intOf c).toNat)
    case atStart => exact ⟨1, rfl, by rw [Nat.sub_self, ch_zero]; rfl, by omega, by omega, hid (by rw [Nat.sub_self, ch_zero]; exact hm)⟩
    case round =>
      obtain ⟨i, rfl, rfl, hi0, hik, hle⟩ := hrel
      by_cases hlt : i ≤ K
      · have hst := hid (ch_step (n - K) i hi0)
        have hmn := hid (ch_mono (n - K) i (K - i))
        obtain ⟨c, hc⟩ : ∃ c, ch (n - K + (i - 1)) (i - 1) = c := ⟨_, rfl⟩
        have hcm : c ≤ 1000000 := by have := hle.out; omega
        rw [hc] at hst ⊢
        obtain ⟨d, hd⟩ : ∃ d, ch (n - K + i) i = d := ⟨_, rfl⟩
        rw [hd] at hst hmn
        have hd' := hid hd
        have hmul : c * (n - K + i) ≤ 64000000 := by
          have := Nat.mul_le_mul hcm (show n - K + i ≤ 64 by omega)
          omega
        have e1 : (n : Int) - K + i = ((n - K + i : Nat) : Int) := by omega
        have hval : ((c : Int) * ((n : Int) - K + i)).tdiv i = d := by
          rw [e1, ← Int.natCast_mul, ← Int.ofNat_tdiv]
          rw [hst.out]
        have hmulI : 0 ≤ (c : Int) * ((n : Int) - K + i) ∧ (c : Int) * ((n : Int) - K + i) ≤ 64000000 := by
          rw [e1, ← Int.natCast_mul]; omega
        have hdK : Hid (d ≤ ch n k) := hid (by
          have := hmn.out
          rw [show n - K + i + (K - i) = n by omega, show i + (K - i) = K by omega, hKch.out] at this
          exact this)
        have hdb : d ≤ 64000000 := by rw [← hst.out]; exact Nat.le_trans (Nat.div_le_self _ _) hmul
        have hwd : IntKind.i64.wrap (d : Int) = (d : Int) := IntWalk.i64_in _ (by omega)
        clear hd hc hmul e1 hst hmn
        by_cases hdm : most < d
        · have hfin : Hid (most = min (ch n k) most) := hid (by have := hdK.out; omega)
          clear hdK
          go_wp2_with fail
          go_ret
          exact ⟨rfl, ret_int (congrArg Int.ofNat hfin.out)⟩
        · have hd2 : Hid (ch (n - K + (i + 1 - 1)) (i + 1 - 1) = d) := hid (by rw [Nat.add_sub_cancel]; exact hd'.out)
          clear hdK
          go_wp2_with fail
          go_round
          case rel => exact ⟨i + 1, by go_num, by rw [hd2.out], by omega, by omega, hid (by rw [hd2.out]; omega)⟩
          case measure => simp [intOf]; omega
      · have hiK : i = K + 1 := by omega
        have hfin : Hid (ch (n - K + (i - 1)) (i - 1) = min (ch n k) most) := hid (by
          have h1 := hle.out
          subst hiK
          rw [Nat.add_sub_cancel, show n - K + K = n by omega, hKch.out] at h1 ⊢
          omega)
        rw [hfin.out]
        clear hiK
        go_wp2_with fail
        go_ret
        exact ⟨rfl, rfl⟩

/-- The reference's row, cut at a bound. -/
def PasM (r : List Nat) (k i j M : Nat) : Prop := r.length = k + 1 ∧ ∀ p (_ : p < r.length), r[p] = min (if j < p then ch (i + 1) p else ch i p) M
theorem PasM.start (k M : Nat) (hM : 1 ≤ M) : PasM ((List.replicate (k + 1) 0).set 0 1) k 0 k M := by
  obtain ⟨h1, h2⟩ := PasInv.start k
  refine ⟨h1, fun p hp => ?_⟩
  have := h2 p hp
  rw [this]
  have hle : (if k < p then ch (0 + 1) p else ch 0 p) ≤ 1 := by
    rw [if_neg (by omega)]
    cases p with
    | zero => simp [ch]
    | succ p => simp [ch]
  omega
theorem PasM.step {r : List Nat} {k i j M : Nat} (h : PasM r k i j M) (h0 : 0 < j) (hj : j ≤ k) {x y : Nat} (hx : r[j]'(by rw [h.1]; omega) = x) (hy : r[j - 1]'(by rw [h.1]; omega) = y) : PasM (r.set j (min (x + y) M)) k i (j - 1) M := by
  obtain ⟨h1, h2⟩ := h
  refine ⟨by simpa using h1, fun p hp => ?_⟩
  have e1 := h2 j (by omega)
  have e2 := h2 (j - 1) (by omega)
  rw [if_neg (by omega), hx] at e1
  rw [if_neg (by omega), hy] at e2
  rw [List.getElem_set]
  by_cases hp2 : j = p
  · subst hp2
    rw [if_pos rfl, if_pos (by omega)]
    have e3 : ch (i + 1) j = ch i (j - 1) + ch i j := by
      obtain ⟨j', rfl⟩ : ∃ j', j = j' + 1 := ⟨j - 1, by omega⟩
      rfl
    rw [e3]; omega
  · rw [if_neg hp2, h2 p (by simpa using hp)]
    by_cases h3 : j < p
    · rw [if_pos h3, if_pos (by omega)]
    · rw [if_neg h3, if_neg (by omega)]
theorem PasM.next {r : List Nat} {k i M : Nat} (h : PasM r k i 0 M) : PasM r k (i + 1) k M := by
  obtain ⟨h1, h2⟩ := h
  refine ⟨h1, fun p hp => ?_⟩
  rw [h2 p hp, if_neg (show ¬ k < p by omega)]
  by_cases h3 : 0 < p
  · rw [if_pos h3]
  · obtain rfl : p = 0 := by omega
    rw [if_neg (by omega), ch_zero, ch_zero]

theorem rpchoose_any (X : Nat → Bool) (n k M : Nat) (most : Int) (w : World) (hk : k ≤ n) (hn : n ≤ 64) (hm : 1 ≤ M) (hm2 : M ≤ 1000000) (hmM : most + 1 = (M : Int)) (hX : ∀ k, X k = true → k < w.heap.size) :
    Calls Try.prog 34 #[.int .i64 (n : Int), .int .i64 (k : Int), .int .i64 most] w (fun e w' => Ext w w' ∧ e = .returned (.int .i64 (min (ch n k) M : Nat))) := by
  have hmw : IntKind.i64.wrap (most + 1) = (M : Int) := by rw [hmM]; exact IntWalk.i64_in _ (by omega)
  have hmM' := hid hmM
  have hmb : 0 ≤ most ∧ most ≤ 1000000 := by omega
  clear hmM
  go_enter Try.func34, Try.ntmps34
  go_wp2_with (at_make; refine st_make slInt (NatIn.elem .i64) 0 (fun _ => rfl) X hX w.heap.size (Nat.le_refl _) (k + 1) rfl rfl (by omega) (by omega) (by omega) ?_; intro oo w1 hO1 hE1; have hho : Hd oo (k + 1) := by (have := hO1.hd; simpa using this))
  go_wp2_with (first | (with_reducible refine up_ix1 slInt (by omega) (by assumption) ?_) | ((with_reducible show wpList _ _ _ (⟨_, .store _ _ _, _, _, _, _⟩ :: _) _ _); refine st_storeNat tyInt 0 1 rfl rfl hO1 (by simp) rfl rfl ?_; intro w3 hO3 hE3))
  have hE0 := hE1.own hO1 (Nat.le_refl _) hE3
  have hstart := PasM.start k M hm
  go_loopw [8] (fun c wr => ∃ (i : Nat) (r : List Nat), c = .int .i64 i ∧ i ≤ n ∧ PasM r k i k M ∧ OL (NatIn .i64) 1 X w.heap.size 3 wr oo (k + 1) r ∧ Ext w wr) (fun c _ => n - (intOf c).toNat)
  case atStart => exact ⟨0, _, rfl, by omega, hstart, hO3, hE0⟩
  case round =>
    clear hE1 hE3 hO1 hO3 hE0 hstart
    obtain ⟨i, r, rfl, hi, hinv, hO, hE⟩ := hrel
    by_cases hlt : i < n
    · obtain ⟨wo, rfl⟩ : ∃ wo : World, wo = wr := ⟨_, rfl⟩
      go_wp2_with fail
      go_loopw [9] (fun c wr => ∃ (j : Nat) (r : List Nat), c = .int .i64 j ∧ j ≤ k ∧ PasM r k i j M ∧ OL (NatIn .i64) 1 X w.heap.size 3 wr oo (k + 1) r ∧ Ext w wr) (fun c _ => (intOf c).toNat)
      case atStart => exact ⟨k, r, rfl, by omega, hinv, hO, hE⟩
      case round =>
        clear hinv hO hE
        clear r
        obtain ⟨j, r, rfl, hj, hinv, hO, hE⟩ := hrel
        have hrl := hid hinv.1
        by_cases hj0 : 0 < j
        · have hjl : j < r.length := by rw [hrl.out]; omega
          have hjl2 : j - 1 < r.length := by rw [hrl.out]; omega
          obtain ⟨u1, c1, f1, r1⟩ := hO.cell (NatIn.one .i64) j hjl
          obtain ⟨u2, c2, f2, r2⟩ := hO.cell (NatIn.one .i64) (j - 1) hjl2
          have hst := hid (hinv.step hj0 hj rfl rfl)
          have hb1 : r[j] ≤ 1000000 := by rw [hinv.2 j hjl]; omega
          have hb2 : r[j - 1] ≤ 1000000 := by rw [hinv.2 (j - 1) hjl2]; omega
          obtain ⟨x, hx⟩ : ∃ x, r[j] = x := ⟨_, rfl⟩
          obtain ⟨y, hy⟩ : ∃ y, r[j - 1] = y := ⟨_, rfl⟩
          rw [hx] at r1 hst hb1
          rw [hy] at r2 hst hb2
          cases r1; cases r2
          clear hx hy f2
          have hO3 := hO.set1 tyInt (NatIn.elem _) (NatIn.one .i64) j hjl (.int .i64 (if (M : Int) < (x : Int) + y then (M : Int) else (x : Int) + y)) (min (x + y) M) (congrArg (Value.int .i64) (by split <;> omega))
          have hOd := (hO3.1).ext0 (NatIn.elem _) (ExtX.refl _).drew
          have hEd := (hE.own hO (Nat.le_refl _) hO3.2).drew
          have i1 : ∀ W, (Instr.indexAt 22 (.slice oo (k + 1) (k + 1)) (.int .i64 (j : Int))).run Try.prog W = .ok (.pointer (some (adr oo j))) W := run_ix1 slInt oo (k + 1) (k + 1) .i64 j hho (by omega) rfl
          have i2 : ∀ W, (Instr.indexAt 22 (.slice oo (k + 1) (k + 1)) (.int .i64 ((j : Int) - 1))).run Try.prog W = .ok (.pointer (some (adr oo (j - 1)))) W := run_ix1 slInt oo (k + 1) (k + 1) .i64 (j - 1) hho (by omega) (by omega)
          have ew : IntKind.i64.wrap ((j : Int) - 1) = (j : Int) - 1 := IntWalk.i64_in _ (by omega)
          have ew2 : IntKind.i64.wrap ((x : Int) + (y : Int)) = (x : Int) + (y : Int) := IntWalk.i64_in _ (by omega)
          go_wp2_with fail
          go_region
          go_wp2_with fail
          go_roundw
          case rel => exact ⟨j - 1, _, by go_num, by omega, hst.out, hOd, hEd⟩
          case measure => simp [intOf]; omega
        · have hj00 : j = 0 := by omega
          subst hj00
          go_wp2_with fail
          go_roundw
          case rel => exact ⟨i + 1, r, by go_num, by omega, hinv.next, hO, hE⟩
          case measure => simp [intOf]; omega
    · have hin : i = n := by omega
      subst hin
      have hrl := hid hinv.1
      have hkl : k < r.length := by rw [hrl.out]; omega
      obtain ⟨u1, c1, f1, r1⟩ := hO.cell (NatIn.one .i64) k hkl
      rw [hinv.2 k hkl, if_neg (by omega)] at r1
      cases r1
      go_wp2_with (with_reducible refine up_ix1 slInt (by omega) (by assumption) ?_)
      go_ret
      exact ⟨hE, rfl⟩
end Go.Proofs.Ytblifbnbjffgkaa
