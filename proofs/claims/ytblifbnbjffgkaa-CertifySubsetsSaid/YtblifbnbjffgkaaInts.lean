/- Lists of integers in slices: ascending, common elements, equality. Conditions: lengths far below any machine's. -/
import Derived.Test.YtblifbnbjffgkaaCh1
import Derived.Test.YtblifbnbjffgkaaIntsL
namespace Go.Proofs.Ytblifbnbjffgkaa
open Go.RowKit Go.Rep Go.Lim

set_option maxHeartbeats 400000 in
theorem ascending_any (X : Nat → Bool) (ao : Option Addr) (l : List Int) (cap : Nat) (n : Int) (w : World) (hs : Sl (IntIn .i64) 1 (mk X w) ao l) (hl : l.length ≤ 1099511627776) :
    Calls Try.prog 39 #[.slice ao l.length cap, .int .i64 n] w fun e w' => w = w' ∧ e = .returned (.bool (ascB l n)) := by
  have hh := hs.hd
  go_enter Try.func39, Try.ntmps39
  go_wp2_with fail
  go_loop [9] (fun c => ∃ i : Nat, c = .int .i64 i ∧ i ≤ l.length ∧ Hid (∀ j, j < i → ascAt l n j = true)) (fun c => l.length - (intOf c).toNat)
  case atStart => exact ⟨0, rfl, Nat.zero_le _, fun j hj => by omega⟩
  case round =>
    obtain ⟨i, rfl, hi, hok⟩ := hrel
    by_cases hlt : i < l.length
    · have hc := hs.int i hlt
      have hc2 := hs.int (i - 1) (by omega)
      have e1 := getD_eq hlt
      have e2 := getD_eq (l := l) (i := i - 1) (by omega)
      obtain ⟨x, hx⟩ : ∃ x, l[i] = x := ⟨_, rfl⟩
      obtain ⟨y, hy⟩ : ∃ y, l[i - 1]'(by omega) = y := ⟨_, rfl⟩
      rw [hx] at hc e1
      rw [hy] at hc2 e2
      have he := hid (ascAt_eq (n := n) e1 e2)
      clear e1 e2 hx hy
      have bad : Hid (ascAt l n i = false → ascB l n = false) := hid fun h => all_range_false i hlt h
      by_cases h1 : x < 0
      · have hv : ascB l n = false := bad.out (by rw [he.out]; simp; omega)
        have hv' := hid hv; clear hv
        go_wp2_with (with_reducible refine up_ix1 slInt (by omega) (by assumption) ?_)
        go_ret
        exact ⟨rfl, ret_bool hv'.out.symm⟩
      by_cases h2 : n ≤ x
      · have hv : ascB l n = false := bad.out (by rw [he.out]; simp; omega)
        have hv' := hid hv; clear hv
        go_wp2_with (with_reducible refine up_ix1 slInt (by omega) (by assumption) ?_)
        go_ret
        exact ⟨rfl, ret_bool hv'.out.symm⟩
      by_cases h3 : 0 < i
      · by_cases h4 : x ≤ y
        · have hv : ascB l n = false := bad.out (by rw [he.out]; simp; omega)
          have hv' := hid hv; clear hv
          go_wp2_with (with_reducible refine up_ix1 slInt (by omega) (by assumption) ?_)
          go_ret
          exact ⟨rfl, ret_bool hv'.out.symm⟩
        · have hg : ascAt l n i = true := by rw [he.out]; simp; omega
          have hg' := hid hg; clear hg
          go_wp2_with (with_reducible refine up_ix1 slInt (by omega) (by assumption) ?_)
          go_round
          case rel => exact ⟨i + 1, by go_num, by omega, upto_succ hok.out hg'.out⟩
          case measure => simp [intOf]; omega
      · have hg : ascAt l n i = true := by rw [he.out]; simp; omega
        have hg' := hid hg; clear hg
        go_wp2_with (with_reducible refine up_ix1 slInt (by omega) (by assumption) ?_)
        go_round
        case rel => exact ⟨i + 1, by go_num, by omega, upto_succ hok.out hg'.out⟩
        case measure => simp [intOf]; omega
    · have hv : Hid (ascB l n = true) := hid (all_range_true fun j hj => hok.out j (by omega))
      go_wp2_with fail
      go_ret
      exact ⟨rfl, ret_bool hv.out.symm⟩

set_option maxHeartbeats 400000 in
theorem rsubset_any (X : Nat → Bool) (ao : Option Addr) (l : List Int) (cap : Nat) (n : Int) (w : World) (hs : Sl (IntIn .i64) 1 (mk X w) ao l) (hl : l.length ≤ 1099511627776) :
    Calls Try.prog 55 #[.slice ao l.length cap, .int .i64 n] w fun e w' => w = w' ∧ e = .returned (.bool (ascB l n && decide (0 < l.length))) := by
  have hh := hs.hd
  go_enter Try.func55, Try.ntmps55
  go_wp2_with fail
  go_loop [9] (fun c => ∃ i : Nat, c = .int .i64 i ∧ i ≤ l.length ∧ Hid (∀ j, j < i → ascAt l n j = true)) (fun c => l.length - (intOf c).toNat)
  case atStart => exact ⟨0, rfl, Nat.zero_le _, fun j hj => by omega⟩
  case round =>
    obtain ⟨i, rfl, hi, hok⟩ := hrel
    by_cases hlt : i < l.length
    · have hc := hs.int i hlt
      have hc2 := hs.int (i - 1) (by omega)
      have e1 := getD_eq hlt
      have e2 := getD_eq (l := l) (i := i - 1) (by omega)
      obtain ⟨x, hx⟩ : ∃ x, l[i] = x := ⟨_, rfl⟩
      obtain ⟨y, hy⟩ : ∃ y, l[i - 1]'(by omega) = y := ⟨_, rfl⟩
      rw [hx] at hc e1
      rw [hy] at hc2 e2
      have he := hid (ascAt_eq (n := n) e1 e2)
      clear e1 e2 hx hy
      have bad : Hid (ascAt l n i = false → ascB l n = false) := hid fun h => all_range_false i hlt h
      by_cases h1 : x < 0
      · have hv : ascB l n = false := bad.out (by rw [he.out]; simp; omega)
        have hv' := hid hv; clear hv
        go_wp2_with (with_reducible refine up_ix1 slInt (by omega) (by assumption) ?_)
        go_ret
        exact ⟨rfl, ret_bool (by rw [hv'.out]; rfl)⟩
      by_cases h2 : n ≤ x
      · have hv : ascB l n = false := bad.out (by rw [he.out]; simp; omega)
        have hv' := hid hv; clear hv
        go_wp2_with (with_reducible refine up_ix1 slInt (by omega) (by assumption) ?_)
        go_ret
        exact ⟨rfl, ret_bool (by rw [hv'.out]; rfl)⟩
      by_cases h3 : 0 < i
      · by_cases h4 : x ≤ y
        · have hv : ascB l n = false := bad.out (by rw [he.out]; simp; omega)
          have hv' := hid hv; clear hv
          go_wp2_with (with_reducible refine up_ix1 slInt (by omega) (by assumption) ?_)
          go_ret
          exact ⟨rfl, ret_bool (by rw [hv'.out]; rfl)⟩
        · have hg : ascAt l n i = true := by rw [he.out]; simp; omega
          have hg' := hid hg; clear hg
          go_wp2_with (with_reducible refine up_ix1 slInt (by omega) (by assumption) ?_)
          go_round
          case rel => exact ⟨i + 1, by go_num, by omega, upto_succ hok.out hg'.out⟩
          case measure => simp [intOf]; omega
      · have hg : ascAt l n i = true := by rw [he.out]; simp; omega
        have hg' := hid hg; clear hg
        go_wp2_with (with_reducible refine up_ix1 slInt (by omega) (by assumption) ?_)
        go_round
        case rel => exact ⟨i + 1, by go_num, by omega, upto_succ hok.out hg'.out⟩
        case measure => simp [intOf]; omega
    · have hv : Hid (ascB l n = true) := hid (all_range_true fun j hj => hok.out j (by omega))
      go_wp2_with fail
      go_ret
      exact ⟨rfl, ret_bool (by rw [hv.out]; simp)⟩

theorem rmeets_any (X : Nat → Bool) (ao bo : Option Addr) (a b : List Int) (ca cb : Nat) (w : World) (hsa : Sl (IntIn .i64) 1 (mk X w) ao a) (hsb : Sl (IntIn .i64) 1 (mk X w) bo b) (hla : a.length ≤ 1099511627776) (hlb : b.length ≤ 1099511627776) :
    Calls Try.prog 35 #[.slice ao a.length ca, .slice bo b.length cb] w fun e w' => w = w' ∧ e = .returned (.bool (meets a b)) := by
  have hha := hsa.hd
  have hhb := hsb.hd
  go_enter Try.func35, Try.ntmps35
  go_wp2_with fail
  go_loop [11] (fun c => ∃ i : Nat, c = .int .i64 i ∧ i ≤ a.length ∧ Hid (∀ p, p < i → ∀ (hp : p < a.length) q (hq : q < b.length), a[p] ≠ b[q])) (fun c => a.length - (intOf c).toNat)
  case atStart => exact ⟨0, rfl, Nat.zero_le _, fun p hp => by omega⟩
  case round =>
    obtain ⟨i, rfl, hi, hok⟩ := hrel
    by_cases hlt : i < a.length
    · have hc := hsa.int i hlt
      obtain ⟨x, hx⟩ : ∃ x, a[i] = x := ⟨_, rfl⟩
      rw [hx] at hc
      have hx' := hid hx
      clear hx
      go_wp2_with (with_reducible refine up_ix1 slInt (by omega) (by assumption) ?_)
      go_loop [17] (fun c => ∃ j : Nat, c = .int .i64 j ∧ j ≤ b.length ∧ Hid (∀ q, q < j → ∀ (hq : q < b.length), x ≠ b[q])) (fun c => b.length - (intOf c).toNat)
      case atStart => exact ⟨0, rfl, Nat.zero_le _, fun p hp => by omega⟩
      case round =>
        obtain ⟨j, rfl, hj, hok2⟩ := hrel
        by_cases hlj : j < b.length
        · have hc2 := hsb.int j hlj
          obtain ⟨y, hy⟩ : ∃ y, b[j] = y := ⟨_, rfl⟩
          rw [hy] at hc2
          have hy' := hid hy
          clear hy
          by_cases hxy : x = y
          · have hv : Hid (meets a b = true) := hid (meets_hit hlt hlj (by rw [hx'.out, hy'.out, hxy]))
            have hb : (x == y) = true := beqT hxy
            have hxy' := hid hxy
            clear hxy
            go_wp2_with (with_reducible refine up_ix1 slInt (by omega) (by assumption) ?_)
            go_ret
            exact ⟨rfl, ret_bool (by rw [hv.out] <;> rfl)⟩
          · have hb : (x == y) = false := beqF hxy
            have hn : Hid (∀ hq : j < b.length, x ≠ b[j]) := hid fun _ => by rw [hy'.out]; exact hxy
            clear hxy
            go_wp2_with (with_reducible refine up_ix1 slInt (by omega) (by assumption) ?_)
            go_round
            case rel => exact ⟨j + 1, by go_num, by omega, upto_succ hok2.out hn.out⟩
            case measure => simp [intOf]; omega
        · have hn : Hid (∀ (hp : i < a.length) q (hq : q < b.length), a[i] ≠ b[q]) := hid fun _ q hq => by rw [hx'.out]; exact hok2.out q (by omega) hq
          go_wp2_with fail
          go_round
          case rel => exact ⟨i + 1, by go_num, by omega, upto_succ hok.out hn.out⟩
          case measure => simp [intOf]; omega
    · have hv : Hid (meets a b = false) := hid (meets_none fun p hp q hq => hok.out p (by omega) hp q hq)
      go_wp2_with fail
      go_ret
      exact ⟨rfl, ret_bool (by rw [hv.out] <;> rfl)⟩

theorem lapart_any (X : Nat → Bool) (ao bo : Option Addr) (a b : List Int) (ca cb : Nat) (w : World) (hsa : Sl (IntIn .i64) 1 (mk X w) ao a) (hsb : Sl (IntIn .i64) 1 (mk X w) bo b) (hla : a.length ≤ 1099511627776) (hlb : b.length ≤ 1099511627776) :
    Calls Try.prog 15 #[.slice ao a.length ca, .slice bo b.length cb] w fun e w' => w = w' ∧ e = .returned (.bool (!meets a b)) := by
  have hha := hsa.hd
  have hhb := hsb.hd
  go_enter Try.func15, Try.ntmps15
  go_wp2_with fail
  go_loop [11] (fun c => ∃ i : Nat, c = .int .i64 i ∧ i ≤ a.length ∧ Hid (∀ p, p < i → ∀ (hp : p < a.length) q (hq : q < b.length), a[p] ≠ b[q])) (fun c => a.length - (intOf c).toNat)
  case atStart => exact ⟨0, rfl, Nat.zero_le _, fun p hp => by omega⟩
  case round =>
    obtain ⟨i, rfl, hi, hok⟩ := hrel
    by_cases hlt : i < a.length
    · have hc := hsa.int i hlt
      obtain ⟨x, hx⟩ : ∃ x, a[i] = x := ⟨_, rfl⟩
      rw [hx] at hc
      have hx' := hid hx
      clear hx
      go_wp2_with (with_reducible refine up_ix1 slInt (by omega) (by assumption) ?_)
      go_loop [17] (fun c => ∃ j : Nat, c = .int .i64 j ∧ j ≤ b.length ∧ Hid (∀ q, q < j → ∀ (hq : q < b.length), x ≠ b[q])) (fun c => b.length - (intOf c).toNat)
      case atStart => exact ⟨0, rfl, Nat.zero_le _, fun p hp => by omega⟩
      case round =>
        obtain ⟨j, rfl, hj, hok2⟩ := hrel
        by_cases hlj : j < b.length
        · have hc2 := hsb.int j hlj
          obtain ⟨y, hy⟩ : ∃ y, b[j] = y := ⟨_, rfl⟩
          rw [hy] at hc2
          have hy' := hid hy
          clear hy
          by_cases hxy : x = y
          · have hv : Hid (meets a b = true) := hid (meets_hit hlt hlj (by rw [hx'.out, hy'.out, hxy]))
            have hb : (x == y) = true := beqT hxy
            have hxy' := hid hxy
            clear hxy
            go_wp2_with (with_reducible refine up_ix1 slInt (by omega) (by assumption) ?_)
            go_ret
            exact ⟨rfl, ret_bool (by rw [hv.out] <;> rfl)⟩
          · have hb : (x == y) = false := beqF hxy
            have hn : Hid (∀ hq : j < b.length, x ≠ b[j]) := hid fun _ => by rw [hy'.out]; exact hxy
            clear hxy
            go_wp2_with (with_reducible refine up_ix1 slInt (by omega) (by assumption) ?_)
            go_round
            case rel => exact ⟨j + 1, by go_num, by omega, upto_succ hok2.out hn.out⟩
            case measure => simp [intOf]; omega
        · have hn : Hid (∀ (hp : i < a.length) q (hq : q < b.length), a[i] ≠ b[q]) := hid fun _ q hq => by rw [hx'.out]; exact hok2.out q (by omega) hq
          go_wp2_with fail
          go_round
          case rel => exact ⟨i + 1, by go_num, by omega, upto_succ hok.out hn.out⟩
          case measure => simp [intOf]; omega
    · have hv : Hid (meets a b = false) := hid (meets_none fun p hp q hq => hok.out p (by omega) hp q hq)
      go_wp2_with fail
      go_ret
      exact ⟨rfl, ret_bool (by rw [hv.out] <;> rfl)⟩

theorem rpart_any (X : Nat → Bool) (ao : Option Addr) (l : List Int) (cap : Nat) (n m : Int) (w : World) (hs : Sl (IntIn .i64) 1 (mk X w) ao l) (hl : l.length ≤ 1099511627776) :
    Calls Try.prog 46 #[.slice ao l.length cap, .int .i64 n, .int .i64 m] w fun e w' => w = w' ∧ e = .returned (.bool (decide ((l.length : Int) ≤ m) && ascB l n)) := by
  by_cases hm : (l.length : Int) ≤ m
  · by_cases h0 : l.length = 0
    · have hv : Hid (ascB l n = true) := hid (by have : l = [] := List.eq_nil_of_length_eq_zero h0
                                                 subst this; rfl)
      have hb : ((l.length : Int) == 0) = true := beqT (by omega)
      have hd : decide ((l.length : Int) ≤ m) = true := decide_eq_true hm
      have h0' := hid h0
      clear h0
      go_enter Try.func46, Try.ntmps46
      go_wp2_with fail
      go_ret
      exact ⟨rfl, ret_bool (by rw [hv.out]; simpa using hm)⟩
    · have hb : ((l.length : Int) == 0) = false := beqF (by omega)
      have hd : decide ((l.length : Int) ≤ m) = true := decide_eq_true hm
      have hp : Hid (decide (0 < l.length) = true) := hid (decide_eq_true (by omega))
      go_enter Try.func46, Try.ntmps46
      go_wp2_with fail
      refine (rsubset_any X ao l cap n w hs hl).mono ?_
      rintro e w' ⟨rfl, rfl⟩
      rw [hp.out, Bool.and_true]
      go_wp2_with fail
      go_ret
      exact ⟨rfl, ret_bool (by simp [hm])⟩
  · have hd : decide ((l.length : Int) ≤ m) = false := decide_eq_false hm
    go_enter Try.func46, Try.ntmps46
    go_wp2_with fail
    go_ret
    exact ⟨rfl, ret_bool rfl⟩

theorem rsame_any (X : Nat → Bool) (ao bo : Option Addr) (a b : List Int) (ca cb : Nat) (w : World) (hsa : Sl (IntIn .i64) 1 (mk X w) ao a) (hsb : Sl (IntIn .i64) 1 (mk X w) bo b) (hla : a.length ≤ 1099511627776) :
    Calls Try.prog 36 #[.slice ao a.length ca, .slice bo b.length cb] w fun e w' => Ext w w' ∧ e = .returned (.bool (a == b)) := by
  have hha := hsa.hd
  have hhb := hsb.hd
  by_cases hlen : a.length = b.length
  · have hbl : b.length ≤ a.length := by omega
    have hab : a.length ≤ b.length := by omega
    have hne : ((a.length : Int) != b.length) = false := bneF (by omega)
    have hlen' := hid hlen
    clear hlen
    go_enter Try.func36, Try.ntmps36
    go_wp2_with fail
    go_loopw [13] (fun c wr => ∃ i : Nat, c = .int .i64 i ∧ i ≤ a.length ∧ Hid (∀ p, p < i → ∀ (hp : p < a.length) (hq : p < b.length), a[p] = b[p]) ∧ Ext w wr) (fun c _ => a.length - (intOf c).toNat)
    case atStart => exact ⟨0, rfl, Nat.zero_le _, fun p hp => by omega, ExtX.refl _⟩
    case round =>
      obtain ⟨i, rfl, hi, hok, hE⟩ := hrel
      by_cases hlt : i < a.length
      · have hlt2 : i < b.length := by omega
        have c1 := (hsa.mono (IntIn.mono _) (mk_ext hE)).int i hlt
        have c2 := (hsb.mono (IntIn.mono _) (mk_ext hE)).int i hlt2
        have i1 : ∀ W, (Instr.indexAt 22 (.slice ao a.length ca) (.int .i64 (i : Int))).run Try.prog W = .ok (.pointer (some (adr ao i))) W := run_ix1 slInt ao a.length ca .i64 i hha (by omega) rfl
        have i2 : ∀ W, (Instr.indexAt 22 (.slice bo b.length cb) (.int .i64 (i : Int))).run Try.prog W = .ok (.pointer (some (adr bo i))) W := run_ix1 slInt bo b.length cb .i64 i hhb (by omega) rfl
        obtain ⟨x, hx⟩ : ∃ x, a[i] = x := ⟨_, rfl⟩
        obtain ⟨y, hy⟩ : ∃ y, b[i] = y := ⟨_, rfl⟩
        rw [hx] at c1
        rw [hy] at c2
        have hx' := hid hx
        have hy' := hid hy
        clear hx hy
        by_cases hxy : x = y
        · have hn : Hid (∀ (hp : i < a.length) (hq : i < b.length), a[i] = b[i]) := hid fun _ _ => by rw [hx'.out, hy'.out, hxy]
          have hb : (x != y) = false := bneF hxy
          clear hxy
          go_wp2_with fail
          go_quiet (fail)
          go_wp2_with fail
          go_roundw
          case rel => exact ⟨i + 1, by go_num, by omega, upto_succ hok.out hn.out, hE.drewN _⟩
          case measure => simp [intOf]; omega
        · have hv : Hid ((a == b) = false) := hid (by
            cases h : a == b
            · rfl
            · have := eq_of_beq h; subst this; exact absurd (hx'.out.symm.trans hy'.out) hxy)
          have hb : (x != y) = true := bneT hxy
          clear hxy
          go_wp2_with fail
          go_quiet (fail)
          go_wp2_with fail
          go_ret
          exact ⟨hE.drewN _, ret_bool hv.out.symm⟩
      · have hv : Hid ((a == b) = true) := hid (by rw [list_eq_of hlen'.out fun p hp hq => hok.out p (by omega) hp hq]; simp)
        go_wp2_with fail
        go_ret
        exact ⟨hE, ret_bool hv.out.symm⟩
  · have hne : ((a.length : Int) != b.length) = true := bneT (by omega)
    have hv : Hid ((a == b) = false) := hid (by
      cases h : a == b
      · rfl
      · have := eq_of_beq h; subst this; exact absurd rfl hlen)
    clear hlen
    go_enter Try.func36, Try.ntmps36
    go_wp2_with fail
    go_ret
    exact ⟨ExtX.refl _, ret_bool hv.out.symm⟩
end Go.Proofs.Ytblifbnbjffgkaa
