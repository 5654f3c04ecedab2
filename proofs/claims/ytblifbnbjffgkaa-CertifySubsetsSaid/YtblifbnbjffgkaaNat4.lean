/- The reference's natural numbers: Valid, Take, trim, limb, FromUint, Add. Conditions: lengths far below any machine's. -/
import Derived.Test.YtblifbnbjffgkaaNat3
namespace Go.Proofs.Ytblifbnbjffgkaa
open Go.RowKit Go.Rep Go.Lim

theorem rvalid_any (X : Nat → Bool) (ao : Option Addr) (l : List Nat) (cap : Nat) (w : World) (hs : Sl (NatIn .u32) 1 (mk X w) ao l) (hl : l.length ≤ 4398046511104) :
    Calls Try.prog 67 #[.slice ao l.length cap] w fun e w' => w = w' ∧ e = .returned (.bool (validL l)) := by
  have hh := hs.hd
  by_cases h0 : l.length = 0
  · have hl0 : l = [] := List.eq_nil_of_length_eq_zero h0
    subst hl0
    clear hs hh hl h0
    simp only [List.length_nil]
    go_enter Try.func67, Try.ntmps67
    go_wp2_with fail
    go_ret
    exact ⟨rfl, rfl⟩
  · have hc := hs.nat (l.length - 1) (by omega)
    have hv := hid (validL_last (l := l) (by omega))
    have hz : ((l.length : Int) == 0) = false := beqF (by omega)
    go_enter Try.func67, Try.ntmps67
    go_wp2_with (with_reducible refine up_ix1 slU32 (by omega) (by assumption) ?_)
    go_ret
    exact ⟨rfl, ret_bool (by rw [hv.out]; exact cast_bne0 _)⟩

theorem rtake_any (X : Nat → Bool) (ao : Option Addr) (l : List Nat) (cap : Nat) (w : World) (hs : Sl (NatIn .u32) 1 (mk X w) ao l) (hd : Dig l) (hl : l.length ≤ 4398046511104) (hX : ∀ k, X k = true → k < w.heap.size) :
    Calls Try.prog 56 #[.slice ao l.length cap] w (NatOut X w (val l)) := by
  cases hv : validL l
  · have hv' := hid hv
    go_enter Try.func56, Try.ntmps56
    go_wp2_with (go_at_call 67; refine (rvalid_any X _ _ _ _ hs hl).mono ?_; rintro e w' ⟨rfl, rfl⟩)
    go_ret
    have : vl l = [] := by unfold vl; rw [hv]; rfl
    exact ⟨ExtX.refl _, none, 0, [], rfl, by simp, this ▸ vl_canon hd, Sl.nil _ _ _ _⟩
  · have hv' := hid hv
    have hO := OL.nil (NatIn .u32) 1 X w.heap.size 64 w
    have hs2 : Sl (NatIn .u32) 1 (mk (un X none) w) ao l := hs.mono (NatIn.mono _) (mk_sub fun k _ hk => by simpa [un, ob] using hk)
    go_enter Try.func56, Try.ntmps56
    go_wp2_with (first | (go_at_call 67; refine (rvalid_any X _ _ _ _ hs hl).mono ?_; rintro e w' ⟨rfl, rfl⟩) | (at_builtin; refine st_appendl (l := []) slU32 rfl (NatIn.elem .u32) (Nat.le_refl _) hX l rfl rfl hO hs2 (by simp; omega) (by simp; omega) ?_; intro ao2 cap2 w2 hO2 hE2 _))
    go_ret
    have : vl l = l := by unfold vl; rw [hv]; rfl
    have hc := vl_canon hd
    rw [this] at hc
    exact ⟨(ExtX.refl w).own hO (Nat.le_refl _) hE2, _, _, l, rfl, by simpa using hO2.lenCap, hc, by simpa using hO2.sl (NatIn.elem _)⟩

theorem rtrim_any (X : Nat → Bool) (ao : Option Addr) (l : List Nat) (cap : Nat) (w : World) (hs : Sl (NatIn .u32) 1 (mk X w) ao l) (hd : Dig l) (hl : l.length ≤ 4398046511104) (hcap : l.length ≤ cap) :
    Calls Try.prog 58 #[.slice ao l.length cap] w (TrimOut X w ao l cap) := by
  have hh := hs.hd
  go_enter Try.func58, Try.ntmps58
  go_wp2_with fail
  go_loop [0] (fun s => ∃ k : Nat, s = .slice ao k cap ∧ Cut l k) (fun s => lenOf s)
  case atStart => exact ⟨_, rfl, Cut.all l⟩
  case round =>
    obtain ⟨k, rfl, hk⟩ := hrel
    have hkl := hk.1
    by_cases hlt : 0 < k
    · have hc := hs.nat (k - 1) (by omega)
      have hhk : Hd ao k := fun _ => hh (by omega)
      by_cases hz : l[k - 1] = 0
      · have hk' := hk.less hlt hz
        have hz' := hid hz
        rw [hz] at hc
        clear hz
        go_wp2_with (with_reducible refine up_ix1 slU32 (by omega) (by assumption) ?_)
        go_round
        case rel => exact ⟨k - 1, by go_num, hk'⟩
        case measure => simp [lenOf]; omega
      · have hcn := hk.canon hd (.inr ⟨by omega, hz⟩)
        have hz' : ((l[k - 1] : Int) == 0) = false := beqF (by omega)
        go_wp2_with (with_reducible refine up_ix1 slU32 (by omega) (by assumption) ?_)
        go_ret
        exact ⟨rfl, l.take k, ret_slice (by simp; omega), by simp; omega, hcn, hs.take k⟩
    · have hcn := hk.canon hd (.inl (by omega))
      go_wp2_with fail
      go_ret
      exact ⟨rfl, l.take k, ret_slice (by simp; omega), by simp; omega, hcn, hs.take k⟩

theorem rlimb_any (X : Nat → Bool) (ao : Option Addr) (l : List Nat) (cap : Nat) (i : Nat) (w : World) (hs : Sl (NatIn .u32) 1 (mk X w) ao l) (hd : Dig l) (hi : i ≤ 4398046511104) (x : Nat) (hx : l.getD i 0 = x) :
    Calls Try.prog 57 #[.slice ao l.length cap, .int .i64 i] w fun e w' => w = w' ∧ e = .returned (.int .u64 x) := by
  have hh := hs.hd
  have hx' := hid hx
  clear hx
  by_cases h : i < l.length
  · have hc := hs.nat i h
    have hD : l.getD i 0 = l[i] := by simp [List.getD, h]
    have hD' := hid hD
    have hdi := hd.get i h
    rw [B_eq] at hdi
    go_enter Try.func57, Try.ntmps57
    go_wp2_with (with_reducible refine up_ix1 slU32 (by omega) (by assumption) ?_)
    go_ret
    exact ⟨rfl, ret_int (by rw [← hx'.out, hD'.out])⟩
  · have hD : l.getD i 0 = 0 := by simp [List.getD, h]
    have hD' := hid hD
    go_enter Try.func57, Try.ntmps57
    go_wp2_with (with_reducible refine up_ix1 slU32 (by omega) (by assumption) ?_)
    go_ret
    exact ⟨rfl, ret_int (by rw [← hx'.out, hD'.out]; rfl)⟩
theorem rfromUint_any (X : Nat → Bool) (n : Nat) (w : World) (hn : n < 18446744073709551616) (hX : ∀ k, X k = true → k < w.heap.size) :
    Calls Try.prog 59 #[.int .u64 n] w (NatOut X w n) := by
  have hO : OL (NatIn .u32) 1 X w.heap.size 64 (w.alloc (.cells #[.int .u32 ((n : Int) % 4294967296), .int .u32 ((n : Int) / 4294967296)] 64)) (some ⟨w.heap.size, 0, none⟩) 2 [n % 4294967296, n / 4294967296] :=
    OL.lit (NatIn.elem .u32) hX (Nat.le_refl _) [.int .u32 ((n % 4294967296 : Nat) : Int), .int .u32 ((n / 4294967296 : Nat) : Int)] [n % 4294967296, n / 4294967296] _ (by simp [cellsL, Value.cells]) rfl
      (fun i hi _ => by match i, hi with
                        | 0, _ => rfl
                        | 1, _ => rfl) (by simp)
  go_enter Try.func59, Try.ntmps59
  go_wp2_with fail
  refine (rtrim_any X _ [n % 4294967296, n / 4294967296] _ _ (hO.sl (NatIn.elem .u32)) (Dig.cons (by rw [B_eq]; exact Nat.mod_lt _ (by decide)) (Dig.cons (by rw [B_eq]; omega) Dig.nil)) (by simp) (by simp)).mono ?_
  rintro e w' ⟨rfl, l', rfl, hl', hc, hs'⟩
  go_wp2_with fail
  go_ret
  have hv : nv [n % 4294967296, n / 4294967296] = n := by simp only [nv, B_eq]; omega
  rw [hv] at hc
  exact ⟨(ExtX.refl w).alloc _, _, 2, _, rfl, by simpa using hl', hc, hs'⟩

theorem rcompare0_any (X : Nat → Bool) (ao1 bo1 : Option Addr) (a b : List Nat) (ca1 cb1 : Nat) (w : World) (hsa1 : Sl (NatIn .u32) 1 (mk X w) ao1 a) (hsb1 : Sl (NatIn .u32) 1 (mk X w) bo1 b)
    (hal' : a.length ≤ 1099511627776) (na nb : Nat) (hcan : Canon a na) (hcbn : Canon b nb) :
    Calls Try.prog 60 #[.slice ao1 a.length ca1, .slice bo1 b.length cb1] w (IntOut w (cmpN na nb)) := by
  have hha := hsa1.hd
  have hhb := hsb1.hd
  by_cases hlt : a.length < b.length
  · have hv := hid (cmpN_of_len_lt hcan hcbn hlt)
    have hne : ((a.length : Int) != b.length) = true := bneT (by omega)
    go_enter Try.func60, Try.ntmps60
    go_wp2_with fail
    go_ret
    exact ⟨ExtX.refl _, ret_int hv.out.symm⟩
  by_cases hgt : b.length < a.length
  · have hv := hid (cmpN_of_len_gt hcan hcbn hgt)
    have hne : ((a.length : Int) != b.length) = true := bneT (by omega)
    go_enter Try.func60, Try.ntmps60
    go_wp2_with fail
    go_ret
    exact ⟨ExtX.refl _, ret_int hv.out.symm⟩
  have hne : ((a.length : Int) != b.length) = false := bneF (by omega)
  have heq : Hid (a.length = b.length) := hid (by omega)
  have hbl : b.length ≤ a.length := by omega
  have hab : a.length ≤ b.length := by omega
  clear hlt hgt
  go_enter Try.func60, Try.ntmps60
  go_wp2_with fail
  go_loopw [5] (fun i wr => ∃ k : Nat, i = .int .i64 ((k : Int) - 1) ∧ k ≤ a.length ∧ Hid (a.drop k = b.drop k) ∧ Ext w wr) (fun i _ => (intOf i + 1).toNat)
  case atStart => exact ⟨a.length, rfl, Nat.le_refl _, hid (by rw [List.drop_of_length_le (Nat.le_refl _), List.drop_of_length_le hbl]), ExtX.refl _⟩
  case round =>
    obtain ⟨k, rfl, hk, hdr, hE⟩ := hrel
    by_cases hlt : 0 < k
    · have c1 := (hsa1.mono (NatIn.mono _) (mk_ext hE)).nat (k - 1) (by omega)
      have c2 := (hsb1.mono (NatIn.mono _) (mk_ext hE)).nat (k - 1) (by omega)
      have i1 : ∀ W, (Instr.indexAt 50 (.slice ao1 a.length ca1) (.int .i64 ((k : Int) - 1))).run Try.prog W = .ok (.pointer (some (adr ao1 (k - 1)))) W := run_ix1 slU32 ao1 a.length ca1 .i64 (k - 1) hha (by omega) (by omega)
      have i2 : ∀ W, (Instr.indexAt 50 (.slice bo1 b.length cb1) (.int .i64 ((k : Int) - 1))).run Try.prog W = .ok (.pointer (some (adr bo1 (k - 1)))) W := run_ix1 slU32 bo1 b.length cb1 .i64 (k - 1) hhb (by omega) (by omega)
      by_cases h1 : a[k - 1] < b[k - 1]
      · have hv := hid (cmpN_of_lt hcan hcbn heq.out hlt hk hdr.out h1)
        have t1 : ((a[k - 1] : Int) < (b[k - 1] : Int)) := by omega
        go_wp2_with fail
        go_quiet (fail)
        go_wp2_with fail
        go_ret
        exact ⟨hE.drewN _, ret_int hv.out.symm⟩
      by_cases h2 : b[k - 1] < a[k - 1]
      · have hv := hid (cmpN_of_gt hcan hcbn heq.out hlt hk hdr.out h2)
        go_wp2_with fail
        go_quiet (fail)
        go_wp2_with fail
        go_quiet (fail)
        go_wp2_with fail
        go_ret
        exact ⟨(hE.drewN _).drewN _, ret_int hv.out.symm⟩
      · have hdr' := hid (drop_eq_pred heq.out hlt hk hdr.out (by omega))
        go_wp2_with fail
        go_quiet (fail)
        go_wp2_with fail
        go_quiet (fail)
        go_wp2_with fail
        go_roundw
        case rel => exact ⟨k - 1, by go_num, by omega, hdr', hE.drewN _⟩
        case measure => simp [intOf]; omega
    · have hv := hid (cmpN_of_eq hcan hcbn (k := k) (by omega) hdr.out)
      go_wp2_with fail
      go_ret
      exact ⟨hE, ret_int hv.out.symm⟩

theorem radd_any (X : Nat → Bool) (ao bo : Option Addr) (la lb : List Nat) (ca cb : Nat) (w : World) (hsa : Sl (NatIn .u32) 1 (mk X w) ao la) (hsb : Sl (NatIn .u32) 1 (mk X w) bo lb)
    (hda : Dig la) (hdb : Dig lb) (hla : la.length ≤ 1099511627776) (hlb : lb.length ≤ 1099511627776) (hX : ∀ k, X k = true → k < w.heap.size) (na nb : Nat) (hna : val la = na) (hnb : val lb = nb) :
    Calls Try.prog 47 #[.slice ao la.length ca, .slice bo lb.length cb] w (NatOut X w (na + nb)) := by
  go_enter Try.func47, Try.ntmps47
  go_wp2_with fail
  refine (rtake_any X _ _ _ _ hsa hda (by omega) hX).mono ?_
  rintro e w1 ⟨hE1, ao1, ca1, a, rfl, hca1, hcan, hsa1⟩
  have hX1 : ∀ k, X k = true → k < w1.heap.size := fun k hk => Nat.lt_of_lt_of_le (hX k hk) hE1.size
  go_wp2_with fail
  refine (rtake_any X _ _ _ _ (hsb.mono (NatIn.mono _) (mk_ext hE1)) hdb (by omega) hX1).mono ?_
  rintro e w2 ⟨hE2, bo1, cb1, b, rfl, hcb1, hcbn, hsb1⟩
  have hX2 : ∀ k, X k = true → k < w2.heap.size := fun k hk => Nat.lt_of_lt_of_le (hX1 k hk) hE2.size
  have hal : a.length ≤ 1099511627776 := by rw [hcan.len]; exact Nat.le_trans (val_lg la hda) hla
  have hbl : b.length ≤ 1099511627776 := by rw [hcbn.len]; exact Nat.le_trans (val_lg lb hdb) hlb
  replace hsa1 := hsa1.mono (NatIn.mono _) (mk_ext hE2)
  rw [hna] at hcan
  rw [hnb] at hcbn
  have hsum : Hid (nv a + nv b = na + nb) := hid (by rw [hcan.2.2, hcbn.2.2])
  have hda1 := hcan.1
  have hdb1 := hcbn.1
  have hEE := hE1.trans hE2
  clear hna hnb hsa hsb hla hlb hcan hcbn hda hdb hE1 hE2 hX1
  obtain ⟨m, hm⟩ : ∃ m, max a.length b.length = m := ⟨_, rfl⟩
  have hma : a.length ≤ m := by omega
  have hmb : b.length ≤ m := by omega
  have hml : m ≤ 1099511627776 := by omega
  have hmx : (if a.length < b.length then (b.length : Int) else (a.length : Int)) = (m : Int) := by split <;> omega
  have hm' := hid hm
  clear hm
  go_wp2_with fail
  go_loopw [5, 6, 7] (fun v c i wr => ∃ (k : Nat) (o : List Nat) (cy : Nat) (oo : Option Addr) (cp : Nat), i = .int .i64 k ∧ c = .int .u64 cy ∧ v = .slice oo o.length cp ∧ k ≤ m + 1 ∧ RAddInv a b o k cy ∧ OL (NatIn .u32) 1 X w2.heap.size 64 wr oo cp o ∧ Ext w2 wr) (fun _ _ i _ => m + 1 - (intOf i).toNat)
  case atStart => exact ⟨0, [], 0, none, 0, rfl, rfl, rfl, by omega, RAddInv.start a b, OL.nil _ _ _ _ _ _, ExtX.refl _⟩
  case round =>
    obtain ⟨k, o, cy, oo, cp, rfl, rfl, rfl, hk, hinv, hO, hE⟩ := hrel
    have hol := hid hinv.1
    have hcy := hinv.2.2.1
    have hXr : ∀ k, X k = true → k < wr.heap.size := fun k hk => Nat.lt_of_lt_of_le (hX2 k hk) hE.size
    have hbase : w2.heap.size ≤ wr.heap.size := hE.size
    by_cases hlt : k ≤ m
    · have hsa2 := hsa1.mono (NatIn.mono _) (mk_ext hE)
      have hsb2 := hsb1.mono (NatIn.mono _) (mk_ext hE)
      have hst := hinv.step hda1 hdb1
      have hx := hda1.getD k
      have hy := hdb1.getD k
      rw [B_eq] at hx hy
      obtain ⟨x, hxe⟩ : ∃ x, a.getD k 0 = x := ⟨_, rfl⟩
      obtain ⟨y, hye⟩ : ∃ y, b.getD k 0 = y := ⟨_, rfl⟩
      rw [hxe, hye] at hst
      rw [hxe] at hx
      rw [hye] at hy
      have hxe' := hid hxe
      have hye' := hid hye
      clear hxe hye
      go_wp2_with fail
      refine (rlimb_any X ao1 a ca1 k _ hsa2 hda1 (by omega) x hxe'.out).mono ?_
      rintro e w' ⟨rfl, rfl⟩
      go_wp2_with fail
      refine (rlimb_any X bo1 b cb1 k _ hsb2 hdb1 (by omega) y hye'.out).mono ?_
      rintro e w' ⟨rfl, rfl⟩
      have hlen : o.length ≤ 2199023255552 := by rw [hol.out]; omega
      go_wp2_with (at_builtin; refine st_append1 slU32 rfl (NatIn.elem .u32) hbase hXr rfl rfl hO (.int .u32 (((x + y + cy) % 4294967296 : Nat) : Int)) ((x + y + cy) % 4294967296) (by simp [Value.cells]) rfl (by omega) (by omega) ?_; intro ao2 cap2 w3 hO2 hE2 _)
      go_roundw
      case rel => exact ⟨k + 1, _, (x + y + cy) / 4294967296, ao2, cap2, by go_num, by simp, by simp, by omega, hst, hO2, hE.own hO (Nat.le_refl _) hE2⟩
      case measure => simp [intOf]; omega
    · have hke : k = m + 1 := by omega
      subst hke
      have hdn := hinv.done hda1 hdb1 hma hmb
      have hod := hinv.2.1
      have hs3 := hO.sl (NatIn.elem .u32)
      have hlen : o.length ≤ 2199023255552 := by rw [hol.out]; omega
      have hlc := hO.lenCap
      have hdn' := hid hdn
      clear hdn
      go_wp2_with fail
      refine (rtrim_any X _ _ _ _ hs3 hod (by omega) hlc).mono ?_
      rintro e w' ⟨rfl, l', rfl, hl', hc, hs'⟩
      go_wp2_with fail
      go_ret
      rw [hdn'.out, hsum.out] at hc
      exact ⟨hEE.trans hE, _, _, _, rfl, by omega, hc, hs'⟩

theorem rcompare_any (X : Nat → Bool) (ao bo : Option Addr) (la lb : List Nat) (ca cb : Nat) (w : World) (hsa : Sl (NatIn .u32) 1 (mk X w) ao la) (hsb : Sl (NatIn .u32) 1 (mk X w) bo lb)
    (hda : Dig la) (hdb : Dig lb) (hla : la.length ≤ 1099511627776) (hlb : lb.length ≤ 1099511627776) (hX : ∀ k, X k = true → k < w.heap.size) (na nb : Nat) (hna : val la = na) (hnb : val lb = nb) :
    Calls Try.prog 49 #[.slice ao la.length ca, .slice bo lb.length cb] w (IntOut w (cmpN na nb)) := by
  go_enter Try.func49, Try.ntmps49
  go_wp2_with fail
  refine (rtake_any X _ _ _ _ hsa hda (by omega) hX).mono ?_
  rintro e w1 ⟨hE1, ao1, ca1, a, rfl, hca1, hcan, hsa1⟩
  have hX1 : ∀ k, X k = true → k < w1.heap.size := fun k hk => Nat.lt_of_lt_of_le (hX k hk) hE1.size
  go_wp2_with fail
  refine (rtake_any X _ _ _ _ (hsb.mono (NatIn.mono _) (mk_ext hE1)) hdb (by omega) hX1).mono ?_
  rintro e w2 ⟨hE2, bo1, cb1, b, rfl, hcb1, hcbn, hsb1⟩
  have hal : a.length ≤ 1099511627776 := by rw [hcan.len]; exact Nat.le_trans (val_lg la hda) hla
  replace hsa1 := hsa1.mono (NatIn.mono _) (mk_ext hE2)
  rw [hna] at hcan
  rw [hnb] at hcbn
  clear hna hnb
  go_wp2_with fail
  refine (rcompare0_any X ao1 bo1 a b ca1 cb1 _ hsa1 hsb1 hal na nb hcan hcbn).mono ?_
  rintro e w3 ⟨hE3, rfl⟩
  go_wp2_with fail
  go_ret
  exact ⟨(hE1.trans hE2).trans hE3, rfl⟩

end Go.Proofs.Ytblifbnbjffgkaa
