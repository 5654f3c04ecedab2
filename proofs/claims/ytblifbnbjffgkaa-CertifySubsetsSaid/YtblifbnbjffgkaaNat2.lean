/- natural.Compare, bits.Div32, natural.short, Mul, slices.Clone, Div by one digit. Conditions: lengths far below any machine's. -/
import Derived.Test.YtblifbnbjffgkaaNat1
import Derived.Deep.QuietTactic
import Derived.BigQuiet
namespace Go.Proofs.Ytblifbnbjffgkaa
open Go.RowKit Go.Rep Go.Lim

/-- An int comes back. -/
def IntOut (w : World) (v : Int) (e : Ending) (w' : World) : Prop := Ext w w' ∧ e = .returned (.int .i64 v)

theorem compare_any (X : Nat → Bool) (ao bo : Option Addr) (la lb : List Nat) (ca cb : Nat) (w : World) (hsa : Sl (NatIn .u32) 1 (mk X w) ao la) (hsb : Sl (NatIn .u32) 1 (mk X w) bo lb)
    (hda : Dig la) (hdb : Dig lb) (hla : la.length ≤ 1099511627776) (hlb : lb.length ≤ 1099511627776) (hca : la.length ≤ ca) (hcb : lb.length ≤ cb) (na nb : Nat) (hna : val la = na) (hnb : val lb = nb) :
    Calls Try.prog 27 #[.slice ao la.length ca, .slice bo lb.length cb] w (IntOut w (cmpN na nb)) := by
  go_enter Try.func27, Try.ntmps27
  go_wp2_with fail
  refine (value_any X _ _ _ _ hsa hda (by omega) hca).mono ?_
  rintro e w' ⟨rfl, ao1, ca1, a, rfl, hca1, hal, hcan, hsa1⟩
  go_wp2_with fail
  refine (value_any X _ _ _ _ hsb hdb (by omega) hcb).mono ?_
  rintro e w' ⟨rfl, bo1, cb1, b, rfl, hcb1, hbl, hcbn, hsb1⟩
  rw [hna] at hcan
  rw [hnb] at hcbn
  have hal' : a.length ≤ 1099511627776 := Nat.le_trans hal hla
  have hbl' : b.length ≤ 1099511627776 := Nat.le_trans hbl hlb
  clear hna hnb hal hbl hsa hsb hla hlb hca hcb
  have hha := hsa1.hd
  have hhb := hsb1.hd
  by_cases hlt : a.length < b.length
  · have hv := hid (cmpN_of_len_lt hcan hcbn hlt)
    have hne : ((a.length : Int) != b.length) = true := bneT (by omega)
    go_wp2_with fail
    go_ret
    exact ⟨ExtX.refl _, ret_int hv.out.symm⟩
  by_cases hgt : b.length < a.length
  · have hv := hid (cmpN_of_len_gt hcan hcbn hgt)
    have hne : ((a.length : Int) != b.length) = true := bneT (by omega)
    go_wp2_with fail
    go_ret
    exact ⟨ExtX.refl _, ret_int hv.out.symm⟩
  have hne : ((a.length : Int) != b.length) = false := bneF (by omega)
  have heq : Hid (a.length = b.length) := hid (by omega)
  have hbl : b.length ≤ a.length := by omega
  have hab : a.length ≤ b.length := by omega
  clear hlt hgt
  go_wp2_with fail
  go_loopw [5] (fun i wr => ∃ k : Nat, i = .int .i64 ((k : Int) - 1) ∧ k ≤ a.length ∧ Hid (a.drop k = b.drop k) ∧ Ext w wr) (fun i _ => (intOf i + 1).toNat)
  case atStart => exact ⟨a.length, rfl, Nat.le_refl _, hid (by rw [List.drop_of_length_le (Nat.le_refl _), List.drop_of_length_le hbl]), ExtX.refl _⟩
  case round =>
    obtain ⟨k, rfl, hk, hdr, hE⟩ := hrel
    by_cases hlt : 0 < k
    · have c1 := (hsa1.mono (NatIn.mono _) (mk_ext hE)).nat (k - 1) (by omega)
      have c2 := (hsb1.mono (NatIn.mono _) (mk_ext hE)).nat (k - 1) (by omega)
      have i1 : ∀ W, (Instr.indexAt 50 (.slice ao1 a.length ca1) (.int .i64 ((k : Int) - 1))).run Try.prog W = .ok (.pointer (some (adr ao1 (k - 1)))) W := run_ix1 slU32 ao1 a.length ca1 .i64 (k - 1) hha (by omega) (by omega)
      have i2 : ∀ W, (Instr.indexAt 50 (.slice bo1 b.length cb1) (.int .i64 ((k : Int) - 1))).run Try.prog W = .ok (.pointer (some (adr bo1 (k - 1)))) W := run_ix1 slU32 bo1 b.length cb1 .i64 (k - 1) hhb (by omega) (by omega)
      by_cases h1 : a[k - 1] < b[k - 1]
      · have hv := hid (cmpN_of_lt hcan hcbn heq.out hlt hk hdr.out h1)
        have t1 : ((a[k - 1] : Int) < (b[k - 1] : Int)) := by omega
        go_wp2_with fail
        go_quiet (fail)
        go_wp2_with fail
        go_ret
        exact ⟨hE.drewN _, ret_int hv.out.symm⟩
      by_cases h2 : b[k - 1] < a[k - 1]
      · have hv := hid (cmpN_of_gt hcan hcbn heq.out hlt hk hdr.out h2)
        go_wp2_with fail
        go_quiet (fail)
        go_wp2_with fail
        go_quiet (fail)
        go_wp2_with fail
        go_ret
        exact ⟨(hE.drewN _).drewN _, ret_int hv.out.symm⟩
      · have hdr' := hid (drop_eq_pred heq.out hlt hk hdr.out (by omega))
        go_wp2_with fail
        go_quiet (fail)
        go_wp2_with fail
        go_quiet (fail)
        go_wp2_with fail
        go_roundw
        case rel => exact ⟨k - 1, by go_num, by omega, hdr', hE.drewN _⟩
        case measure => simp [intOf]; omega
    · have hv := hid (cmpN_of_eq hcan hcbn (k := k) (by omega) hdr.out)
      go_wp2_with fail
      go_ret
      exact ⟨hE, ret_int hv.out.symm⟩

theorem div32_any (hi lo y : Nat) (w : World) (h1 : hi < y) (h2 : y < 4294967296) (h3 : lo < 4294967296) :
    Calls Try.prog 61 #[.int .u32 hi, .int .u32 lo, .int .u32 y] w (fun e w' => Ext w w' ∧ e = .returned (.tuple #[.int .u32 ((hi * 4294967296 + lo) / y : Nat), .int .u32 ((hi * 4294967296 + lo) % y : Nat)])) := by
  have t1 : ((y : Int) == 0) = false := beqF (by omega)
  have t2 : ((y : Int) != 0) = true := bneT (by omega)
  have hor : bits BinOp.or IntKind.u64 ((hi : Int) * 4294967296) (lo : Int) = (hi : Int) * 4294967296 + lo := by
    have e := bits_or_u64_nat (hi * 4294967296) lo (by omega) (by omega)
    have e2 := Nat.two_pow_add_eq_or_of_lt (i := 32) (b := lo) (by omega) hi
    rw [Nat.mul_comm] at e2
    rw [← e2] at e
    simpa using e
  have hq : (hi * 4294967296 + lo) / y < 4294967296 := by
    rw [Nat.div_lt_iff_lt_mul (by omega)]
    have : (hi + 1) * 4294967296 ≤ y * 4294967296 := Nat.mul_le_mul_right _ h1
    rw [Nat.mul_comm 4294967296 y]; omega
  have hr : (hi * 4294967296 + lo) % y < y := Nat.mod_lt _ (by omega)
  have hq' := hid hq
  have hr' := hid hr
  clear hq hr
  go_enter Try.func61, Try.ntmps61
  go_wp2_with fail
  go_quiet (fail)
  go_wp2_with fail
  go_ret2
  refine ⟨(ExtX.refl _).drewN _, ?_⟩
  have e1 : (((hi * 4294967296 + lo) / y : Nat) : Int) % 4294967296 = (((hi * 4294967296 + lo) / y : Nat) : Int) := cast_mod32 _ hq'.out
  have e2 : (((hi * 4294967296 + lo) % y : Nat) : Int) % 4294967296 = (((hi * 4294967296 + lo) % y : Nat) : Int) := cast_mod32 _ (Nat.lt_trans hr'.out h2)
  simp only [Int.natCast_ediv, Int.natCast_emod, Int.natCast_add, Int.natCast_mul, Int.cast_ofNat_Int] at e1 e2 ⊢
  simp [e1, e2]

/-- A quotient and a digit come back. -/
def ShortOut (X : Nat → Bool) (w : World) (q r : Nat) (e : Ending) (w' : World) : Prop :=
  Ext w w' ∧ ∃ ao cap l, e = .returned (.tuple #[.slice ao l.length cap, .int .u32 r]) ∧ l.length ≤ cap ∧ Canon l q ∧ Sl (NatIn .u32) 1 (mk X w') ao l

theorem short_any (X : Nat → Bool) (ao : Option Addr) (l : List Nat) (cap d : Nat) (w : World) (hs : Sl (NatIn .u32) 1 (mk X w) ao l) (hd : Dig l) (hl : l.length ≤ 1099511627776) (hX : ∀ k, X k = true → k < w.heap.size) (h0 : 0 < d) (h1 : d < 4294967296) :
    Calls Try.prog 53 #[.slice ao l.length cap, .int .u32 d] w (ShortOut X w (nv l / d) (nv l % d)) := by
  have hh := hs.hd
  go_enter Try.func53, Try.ntmps53
  go_wp2_with (at_make; refine st_make slU32 (NatIn.elem .u32) 0 (fun _ => rfl) X hX w.heap.size (Nat.le_refl _) l.length rfl rfl (by omega) (by omega) (by omega) ?_; intro oo w1 hO hE1)
  go_loopw [5, 6] (fun c i wr => ∃ (k : Nat) (q : List Nat) (r : Nat), i = .int .i64 ((k : Int) - 1) ∧ c = .int .u32 r ∧ k ≤ l.length ∧ ShortInv l q d k r ∧ OL (NatIn .u32) 1 X w.heap.size 64 wr oo l.length q ∧ Ext w wr) (fun _ i _ => (intOf i + 1).toNat)
  case atStart => exact ⟨l.length, _, 0, rfl, rfl, by omega, ShortInv.start l d h0, hO, hE1⟩
  case round =>
    obtain ⟨k, q, r, rfl, rfl, hk, hinv, hOr, hEr⟩ := hrel
    clear hO hE1
    have hql := hid hinv.1
    have hrd := hinv.2.2.1
    have hho : Hd oo l.length := hql.out ▸ hOr.hd
    by_cases hlt : 0 < k
    · have hc := (hs.mono (NatIn.mono _) (mk_ext hEr)).nat (k - 1) (by omega)
      have hak := hd.get (k - 1) (by omega)
      rw [B_eq] at hak
      have hst := hinv.step hlt hk hd
      go_wp2_with (first | (with_reducible refine up_ix1 slU32 (by omega) (by assumption) ?_) | (go_at_call 61; refine (div32_any r l[k - 1] d _ hrd h1 hak).mono ?_; rintro e w2 ⟨hE2, rfl⟩; have hO2 := hOr.ext0 (NatIn.elem _) hE2) | ((with_reducible show wpList _ _ _ (⟨_, .store _ _ _, _, _, _, _⟩ :: _) _ _); refine st_storeNat tyU32 (k - 1) ((r * 4294967296 + l[k - 1]) / d) rfl (by omega) hO2 (by rw [hql.out]; omega) rfl (by simp) ?_; intro w3 hO3 hE3))
      go_roundw
      case rel => exact ⟨k - 1, _, _, by go_num, by simp, by omega, hst, hO3, (hEr.trans hE2).own hO2 (Nat.le_refl _) hE3⟩
      case measure => simp [intOf]; omega
    · obtain rfl : k = 0 := by omega
      obtain ⟨hd1, hd2⟩ := hinv.done
      have hd1' := hid hd1
      have hd2' := hid hd2
      have hqd := hinv.2.1
      have hs3 := hOr.sl (NatIn.elem .u32)
      clear hd1 hd2
      go_wp2_with fail
      rw [← hql.out]
      refine (trimmed_any X _ _ _ _ hs3 hqd (by rw [hql.out]; omega) (by omega)).mono ?_
      rintro e w' ⟨rfl, l', rfl, hl', hc, hs'⟩
      go_wp2_with fail
      go_ret2
      rw [hd1'.out] at hc
      exact ⟨hEr, _, _, _, by rw [← hd2'.out]; rfl, hl', hc, hs'⟩

set_option maxRecDepth 100000 in
theorem mul_any (X : Nat → Bool) (ao bo : Option Addr) (la lb : List Nat) (ca cb : Nat) (w : World) (hsa : Sl (NatIn .u32) 1 (mk X w) ao la) (hsb : Sl (NatIn .u32) 1 (mk X w) bo lb)
    (hda : Dig la) (hdb : Dig lb) (hla : la.length ≤ 1099511627776) (hlb : lb.length ≤ 1099511627776) (hca : la.length ≤ ca) (hcb : lb.length ≤ cb) (hX : ∀ k, X k = true → k < w.heap.size) (na nb : Nat) (hna : val la = na) (hnb : val lb = nb) :
    Calls Try.prog 45 #[.slice ao la.length ca, .slice bo lb.length cb] w (NatOut X w (na * nb)) := by
  go_enter Try.func45, Try.ntmps45
  go_wp2_with fail
  refine (value_any X _ _ _ _ hsa hda (by omega) hca).mono ?_
  rintro e w' ⟨rfl, ao1, ca1, a, rfl, hca1, hal, hcan, hsa1⟩
  go_wp2_with fail
  refine (value_any X _ _ _ _ hsb hdb (by omega) hcb).mono ?_
  rintro e w' ⟨rfl, bo1, cb1, b, rfl, hcb1, hbl, hcbn, hsb1⟩
  rw [hna] at hcan
  rw [hnb] at hcbn
  have hal' : a.length ≤ 1099511627776 := Nat.le_trans hal hla
  have hbl' : b.length ≤ 1099511627776 := Nat.le_trans hbl hlb
  have hsum : Hid (nv a * nv b = na * nb) := hid (by rw [hcan.2.2, hcbn.2.2])
  have hda1 := hcan.1
  have hdb1 := hcbn.1
  clear hna hnb hal hbl hsa hsb hla hlb hca hcb hcan hcbn hda hdb
  have hha := hsa1.hd
  have hhb := hsb1.hd
  go_wp2_with (at_make; refine st_make slU32 (NatIn.elem .u32) 0 (fun _ => rfl) X hX w.heap.size (Nat.le_refl _) (a.length + b.length) rfl rfl (by omega) (by omega) (by omega) ?_; intro oo w1 hO hE1)
  go_loopw [23] (fun i wr => ∃ (k : Nat) (o : List Nat), i = .int .i64 k ∧ k ≤ a.length ∧ MulInv a b o k 0 0 ∧ OL (NatIn .u32) 1 X w.heap.size 64 wr oo (a.length + b.length) o ∧ Ext w wr) (fun i _ => a.length - (intOf i).toNat)
  case atStart => exact ⟨0, _, rfl, by omega, MulInv.start a b, hO, hE1⟩
  case round =>
    obtain ⟨k, o, rfl, hk, hinv, hOr, hEr⟩ := hrel
    clear hO hE1
    have hol := hid hinv.1
    by_cases hlt : k < a.length
    · have hca := (hsa1.mono (NatIn.mono _) (mk_ext hEr)).nat k hlt
      have hak := hda1.get k hlt
      rw [B_eq] at hak
      obtain ⟨x, hx⟩ : ∃ x, a[k] = x := ⟨_, rfl⟩
      rw [hx] at hca hak
      have hx' := hid hx
      clear hx
      obtain ⟨wo, rfl⟩ : ∃ wo : World, wo = wr := ⟨_, rfl⟩
      go_wp2_with (with_reducible refine up_ix1 slU32 (by omega) (by assumption) ?_)
      go_loopw [8, 30] (fun c j wr => ∃ (m : Nat) (o : List Nat) (cy : Nat), j = .int .i64 m ∧ c = .int .u64 cy ∧ m ≤ b.length ∧ MulInv a b o k m cy ∧ OL (NatIn .u32) 1 X w.heap.size 64 wr oo (a.length + b.length) o ∧ Ext w wr) (fun _ j _ => b.length - (intOf j).toNat)
      case atStart => exact ⟨0, o, 0, rfl, rfl, by omega, hinv, hOr, hEr⟩
      case round =>
        clear hinv hOr hEr hol hca
        clear o
        obtain ⟨m, o, cy, rfl, rfl, hm, hinv, hOr, hEr⟩ := hrel
        have hol := hid hinv.1
        have hho : Hd oo (a.length + b.length) := hol.out ▸ hOr.hd
        have hcy := hinv.2.2.1
        rw [B_eq] at hcy
        by_cases hmt : m < b.length
        · have hcb := (hsb1.mono (NatIn.mono _) (mk_ext hEr)).nat m hmt
          have hij : k + m < o.length := by rw [hol.out]; omega
          have hoc := (hOr.sl (NatIn.elem _)).nat (k + m) hij
          have hbk := hdb1.get m hmt
          have hok := hinv.2.1.get (k + m) hij
          rw [B_eq] at hbk hok
          obtain ⟨y, hy⟩ : ∃ y, b[m] = y := ⟨_, rfl⟩
          obtain ⟨z, hz⟩ : ∃ z, o[k + m] = z := ⟨_, rfl⟩
          obtain ⟨hst, hb1⟩ := hinv.step' hlt hmt hda1 hdb1 hij hx'.out hy hz
          rw [hy] at hcb hbk
          rw [hz] at hoc hok
          clear hy hz
          have hx0 : (0 : Int) ≤ (x : Int) * (y : Int) := Int.mul_nonneg (by omega) (by omega)
          have hx3 : (cy : Int) + ((x : Int) * (y : Int) + (z : Int)) < 18446744073709551616 := by rw [← Int.natCast_mul]; omega
          have hw1 : IntKind.u64.wrap ((x : Int) * (y : Int)) = (x : Int) * (y : Int) := IntWalk.u64_in _ (by omega)
          have hw2 : IntKind.u64.wrap ((x : Int) * (y : Int) + (z : Int)) = (x : Int) * (y : Int) + (z : Int) := IntWalk.u64_in _ (by omega)
          have hw3 : IntKind.u64.wrap ((cy : Int) + ((x : Int) * (y : Int) + (z : Int))) = (cy : Int) + ((x : Int) * (y : Int) + (z : Int)) := IntWalk.u64_in _ (by omega)
          clear hb1 hx3 hx0
          have hoc2 : wr.cell? (adr oo ((k : Int) + (m : Int)).toNat) = some (.int .u32 z) := hoc
          go_wp2_with (first | (with_reducible refine up_ix1 slU32 (by omega) (by assumption) ?_) | ((with_reducible show wpList _ _ _ (⟨_, .store _ _ _, _, _, _, _⟩ :: _) _ _); refine st_storeNat tyU32 (k + m) ((cy + (x * y + z)) % 4294967296) rfl (by omega) hOr hij rfl (by simp) ?_; intro w3 hO3 hE3))
          go_roundw
          case rel => exact ⟨m + 1, _, _, by go_num, by simp, by omega, hst, hO3, hEr.own hOr (Nat.le_refl _) hE3⟩
          case measure => simp [intOf]; omega
        · have hme : m = b.length := by omega
          subst hme
          have hst := hinv.row hlt
          have hij : k + b.length < o.length := by rw [hol.out]; omega
          go_wp2_with (first | (with_reducible refine up_ix1 slU32 (by omega) (by assumption) ?_) | ((with_reducible show wpList _ _ _ (⟨_, .store _ _ _, _, _, _, _⟩ :: _) _ _); refine st_storeNat tyU32 (k + b.length) cy rfl (by omega) hOr hij rfl (by omega) ?_; intro w3 hO3 hE3))
          go_roundw
          case rel => exact ⟨k + 1, _, by go_num, by omega, hst, hO3, hEr.own hOr (Nat.le_refl _) hE3⟩
          case measure => simp [intOf]; omega
    · have hke : k = a.length := by omega
      subst hke
      have hdn := hinv.done rfl
      have hod := hinv.2.1
      have hs3 := hOr.sl (NatIn.elem .u32)
      have hdn' := hid hdn
      clear hdn
      go_wp2_with fail
      rw [← hol.out]
      refine (trimmed_any X _ _ _ _ hs3 hod (by rw [hol.out]; omega) (by omega)).mono ?_
      rintro e w' ⟨rfl, l', rfl, hl', hc, hs'⟩
      go_wp2_with fail
      go_ret
      rw [hdn'.out, hsum.out] at hc
      exact ⟨hEr, _, _, _, rfl, hl', hc, hs'⟩
end Go.Proofs.Ytblifbnbjffgkaa
