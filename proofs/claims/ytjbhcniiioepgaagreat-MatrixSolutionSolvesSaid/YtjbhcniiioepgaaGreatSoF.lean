/- natural.Div at any numbers, Uint, gcd, Gcd. Conditions: lengths far below any machine's. The reference's natural numbers: Valid, Take, trim, limb, FromUint, Add. Conditions: lengths far below any machine's. The reference's subtraction, product by a digit, and division bit by bit: invariants. Plain mathematics. Conditions: none. Natural numbers as values: readings, and the contracts of both texts' natural numbers over them. Conditions: at most 2^40 digits. The reference's Sub, times, Mul. Conditions: lengths far below any machine's. -/
import Derived.Test.YtjbhcniiioepgaaGreatSoE
namespace Go.Lim
theorem lg_two {n : Nat} (h1 : 4294967296 ≤ n) : 2 ≤ lg n := by
  by_cases h : lg n ≤ 1
  · rw [lg_le, Nat.pow_one, B_eq] at h; omega
  · omega
end Go.Lim
namespace Go.Proofs.YtjbhcniiioepgaaGreat
open Go.RowKit Go.Rep Go.Lim

theorem div_any (X : Nat → Bool) (ao bo : Option Addr) (la lb : List Nat) (ca cb : Nat) (w : World) (hsa : Sl (NatIn .u32) 1 (mk X w) ao la) (hsb : Sl (NatIn .u32) 1 (mk X w) bo lb)
    (hda : Dig la) (hdb : Dig lb) (hla : la.length ≤ 1099511627776) (hlb : lb.length ≤ 1099511627776) (hca : la.length ≤ ca) (hcb : lb.length ≤ cb) (hX : ∀ k, X k = true → k < w.heap.size) (na nb : Nat) (hna : val la = na) (hnb : val lb = nb)
    (h0 : 0 < nb) :
    Calls Tryz.prog 200 #[.slice ao la.length ca, .slice bo lb.length cb] w (DivOut X w (na / nb) (na % nb)) := by
  by_cases h1 : nb < 4294967296
  · exact div1_any X ao bo la lb ca cb w hsa hsb hda hdb hla hlb hca hcb hX na nb hna hnb h0 h1
  have h2 := lg_two (show 4294967296 ≤ nb by omega)
  clear h1
  go_enter Tryz.func200, Tryz.ntmps200
  go_wp2_with fail
  refine (value_any X _ _ _ _ hsa hda (by omega) hca).mono ?_
  rintro e w' ⟨rfl, ao1, ca1, a, rfl, hca1, hal, hcan, hsa1⟩
  go_wp2_with fail
  refine (value_any X _ _ _ _ hsb hdb (by omega) hcb).mono ?_
  rintro e w' ⟨rfl, bo1, cb1, b, rfl, hcb1, hbl, hcbn, hsb1⟩
  rw [hna] at hcan
  rw [hnb] at hcbn
  have hb2 : 2 ≤ b.length := by rw [hcbn.len]; exact h2
  have hal' : a.length ≤ 1099511627776 := Nat.le_trans hal hla
  have hbl' : b.length ≤ 1099511627776 := Nat.le_trans hbl hlb
  have hva := hid hcan.val
  have hvb := hid hcbn.val
  clear hna hnb hal hbl hsa hsb hla hlb hca hcb h2 hda hdb
  go_wp2_with fail
  refine (compare_any X ao1 bo1 a b ca1 cb1 w hsa1 hsb1 hcan.1 hcbn.1 hal' hbl' hca1 hcb1 na nb hva.out hvb.out).mono ?_
  rintro e w2 ⟨hE2, rfl⟩
  have hsa2 := hsa1.mono (NatIn.mono _) (mk_ext hE2)
  have hsb2 := hsb1.mono (NatIn.mono _) (mk_ext hE2)
  have hX2 : ∀ k, X k = true → k < w2.heap.size := fun k hk => Nat.lt_of_lt_of_le (hX k hk) hE2.size
  by_cases hlt : na < nb
  · have hcl : cmpN na nb < 0 := (cmpN_lt na nb).2 hlt
    have hq := hid (Nat.div_eq_of_lt hlt)
    have hr := hid (Nat.mod_eq_of_lt hlt)
    generalize cmpN na nb = c at hcl
    go_wp2_with fail
    refine (clone_any X _ _ _ _ na hsa2 hcan (by omega) hX2).mono ?_
    rintro e w3 ⟨hE3, ao3, ca3, l3, rfl, hc3, hcan3, hs3⟩
    go_wp2_with fail
    go_ret3
    refine ⟨hE2.trans hE3, none, 0, [], ao3, ca3, l3, rfl, by simp, ?_, Sl.nil _ _ _ _, hc3, ?_, hs3⟩
    · rw [hq.out]; exact Canon.nil
    · rw [hr.out]; exact hcan3
  · have hcl : ¬ cmpN na nb < 0 := fun h => hlt ((cmpN_lt na nb).1 h)
    generalize cmpN na nb = c at hcl
    go_wp2_with fail
    refine (divide_any X ao1 bo1 a b ca1 cb1 w2 hsa2 hsb2 na nb hcan hcbn (by omega) hb2 hal' hX2).mono ?_
    rintro e w3 ⟨hE3, ao3, ca3, l3, bo4, cb4, l4, rfl, hc3, hcan3, hs3, hc4, hcan4, hs4⟩
    go_wp2_with fail
    go_ret3
    exact ⟨hE2.trans hE3, ao3, ca3, l3, bo4, cb4, l4, rfl, hc3, hcan3, hs3, hc4, hcan4, hs4⟩

/-- A number below 2^64, or none, comes back. -/
def UintOut (w : World) (n : Nat) (e : Ending) (w' : World) : Prop :=
  w = w' ∧ ((n < 18446744073709551616 ∧ e = .returned (.tuple #[.int .u64 n, .bool true])) ∨ (18446744073709551616 ≤ n ∧ e = .returned (.tuple #[.int .u64 0, .bool false])))

theorem uint_any (X : Nat → Bool) (ao : Option Addr) (l : List Nat) (c : Nat) (w : World) (hs : Sl (NatIn .u32) 1 (mk X w) ao l) (hd : Dig l) (hl : l.length ≤ 1099511627776) (hc : l.length ≤ c) (n : Nat) (hn : val l = n) :
    Calls Tryz.prog 203 #[.slice ao l.length c] w (UintOut w n) := by
  go_enter Tryz.func203, Tryz.ntmps203
  go_wp2_with fail
  refine (value_any X _ _ _ _ hs hd (by omega) hc).mono ?_
  rintro e w' ⟨rfl, ao1, ca1, a, rfl, hca1, hal, hcan, hsa1⟩
  rw [hn] at hcan
  have hal' : a.length ≤ 1099511627776 := Nat.le_trans hal hl
  have hha := hsa1.hd
  have hnv := hid hcan.2.2
  have hda := hcan.1
  have hlen := hid hcan.len
  clear hn hs hd hl hc hal
  by_cases h2 : 2 < a.length
  · have hbig : 18446744073709551616 ≤ n := by
      by_cases h : n < 18446744073709551616
      · have : lg n ≤ 2 := by rw [lg_le, B_eq]; omega
        have := hlen.out; omega
      · omega
    have hb' := hid hbig
    clear hbig
    go_wp2_with fail
    go_ret2
    exact ⟨rfl, .inr ⟨hb'.out, rfl⟩⟩
  · have hsm : Hid (n < 18446744073709551616) := hid (by
      have : lg n ≤ 2 := by rw [← hlen.out]; omega
      rw [lg_le, B_eq] at this; omega)
    go_wp2_with fail
    go_loop [2, 13] (fun v i => ∃ k : Nat, i = .int .i64 k ∧ v = .int .u64 (nv (a.take k) : Nat) ∧ k ≤ a.length) (fun _ i => a.length - (intOf i).toNat)
    case atStart => exact ⟨0, rfl, rfl, by omega⟩
    case round =>
      obtain ⟨k, rfl, rfl, hk⟩ := hrel
      by_cases hlt : k < a.length
      · have hcell := hsa1.nat k hlt
        have hx := hda.get k hlt
        have hstep := nv_take_succ a k hlt
        obtain ⟨x, hxx⟩ : ∃ x, a[k] = x := ⟨_, rfl⟩
        rw [hxx] at hcell hx hstep
        rw [B_eq] at hx hstep
        have hlow := nv_take_lt hda k
        obtain ⟨v, hv⟩ : ∃ v, nv (a.take k) = v := ⟨_, rfl⟩
        rw [hv] at hstep hlow ⊢
        have hst' := hid hstep
        clear hstep hxx hv
        rcases (by omega : k = 0 ∨ k = 1) with rfl | rfl
        · rw [Nat.pow_zero] at hlow
          obtain rfl : v = 0 := by omega
          clear hlow
          have hor : bits BinOp.or IntKind.u64 0 (x : Int) = (x : Int) := by
            have := bits_or_u64_nat 0 x (by omega) (by omega)
            rw [Nat.zero_or] at this; exact this
          have hcell0 : w.cell? (adr ao1 0) = some (.int .u32 x) := hcell
          go_wp2_with (with_reducible refine up_ix1 slU32 (by omega) (by assumption) ?_)
          have hfin : nv (a.take 1) = x := by have := hst'.out; simpa using this
          go_round
          case rel => exact ⟨1, rfl, by rw [hfin], by omega⟩
          case measure => simp [intOf]; omega
        · rw [Nat.pow_one, B_eq] at hlow
          have hor0 : bits BinOp.or IntKind.u64 (v : Int) ((x : Int) * 4294967296) = ((v + 4294967296 * x : Nat) : Int) := by
            have e := bits_or_u64_nat v (x * 4294967296) (by omega) (by omega)
            have e2 := Nat.two_pow_add_eq_or_of_lt (i := 32) (b := v) (by omega) x
            rw [Nat.or_comm, Nat.mul_comm x, show (4294967296 : Nat) * x = 2 ^ 32 * x from rfl, ← e2] at e
            have e3 : ((2 ^ 32 * x : Nat) : Int) = (x : Int) * 4294967296 := by omega
            rw [e3] at e
            rw [e]
            omega
          have hfin0 : nv (a.take 2) = v + 4294967296 * x := by have := hst'.out; simpa using this
          obtain ⟨T, hT⟩ : ∃ T, v + 4294967296 * x = T := ⟨_, rfl⟩
          rw [hT] at hor0 hfin0
          have hfin := hid hfin0
          have hor := hor0
          clear hor0 hT hfin0
          have hcell0 : w.cell? (adr ao1 1) = some (.int .u32 x) := hcell
          have hvI : (v : Int) < 4294967296 := by omega
          have hxI : (x : Int) < 4294967296 := by omega
          clear hlow hx
          have hltI : (1 : Int) < (a.length : Int) := by omega
          have hltI2 : decide ((1 : Int) < (a.length : Int)) = true := decide_eq_true hltI
          go_wp2_with (with_reducible refine up_ix1 slU32 (by omega) (by assumption) ?_)
          go_round
          case rel => exact ⟨2, rfl, by rw [hfin.out], by omega⟩
          case measure => simp [intOf]; omega
      · have hka : k = a.length := by omega
        have hfin : nv (a.take k) = n := by rw [hka, List.take_length]; exact hnv.out
        rw [hfin]
        go_wp2_with fail
        go_ret2
        exact ⟨rfl, .inl ⟨hsm.out, rfl⟩⟩

theorem gcd64_any (a b : Nat) (w : World) (ha : a < 18446744073709551616) (hb : b < 18446744073709551616) :
    Calls Tryz.prog 204 #[.int .u64 a, .int .u64 b] w (QuietOut w .u64 (Nat.gcd a b)) := by
  obtain ⟨g, hg⟩ : ∃ g, Nat.gcd a b = g := ⟨_, rfl⟩
  rw [hg]
  have hg' := hid hg
  clear hg
  have hbI : Hid (b < 18446744073709551616) := hid hb
  clear ha hb
  go_enter Tryz.func204, Tryz.ntmps204
  go_wp2_with fail
  go_loopw [0, 1] (fun x y wr => ∃ p q m : Nat, x = .int .u64 p ∧ y = .int .u64 q ∧ Hid (Nat.gcd p q = g) ∧ wr = w.drewN m) (fun _ y _ => (intOf y).toNat)
  case atStart => exact ⟨a, b, 0, rfl, rfl, hg', rfl⟩
  case round =>
    obtain ⟨p, q, m, rfl, rfl, hpq, rfl⟩ := hrel
    by_cases hq : q = 0
    · subst hq
      have hfin := hid (by have := hpq.out; rwa [Nat.gcd_zero_right] at this)
      have t1 : (((0 : Nat) : Int) != 0) = false := rfl
      go_wp2_with fail
      go_ret
      exact ⟨ret_int (congrArg Nat.cast hfin.out), m, rfl⟩
    · have t1 : ((q : Int) == 0) = false := beqF (by omega)
      have t2 : ((q : Int) != 0) = true := bneT (by omega)
      have hst : Hid (Nat.gcd q (p % q) = g) := hid (by rw [Nat.gcd_comm, ← Nat.gcd_rec, Nat.gcd_comm]; exact hpq.out)
      have hlt : p % q < q := Nat.mod_lt _ (by omega)
      have hq' := hid hq
      clear hq
      go_wp2_with fail
      go_quiet (fail)
      go_wp2_with fail
      go_roundw
      case rel => exact ⟨q, p % q, _, rfl, by rw [Int.natCast_emod], hst, World.drewN_drewN _ _ _⟩
      case measure =>
        simp only [intOf, Int.toNat_natCast]
        rw [← Int.natCast_emod, Int.toNat_natCast]
        exact hlt

/-- The number that a slice's cells hold: for a loop's measure. -/
noncomputable def nvAt (w : World) : Value → Nat
  | .slice ao n _ => nv ((List.range n).map fun i => match w.cell? (adr ao i) with | some (.int _ x) => x.toNat | _ => 0)
  | _ => 0
theorem nvAt_eq {X : Nat → Bool} {w : World} {ao : Option Addr} {l : List Nat} (c : Nat) (hs : Sl (NatIn .u32) 1 (mk X w) ao l) : nvAt w (.slice ao l.length c) = nv l := by
  show nv _ = nv l
  congr 1
  apply List.ext_getElem
  · simp
  · intro i h1 h2
    simp only [List.getElem_map, List.getElem_range, hs.nat i h2, Int.toNat_natCast]

/-- natural.Gcd of two numbers. -/
theorem gcd_any (X : Nat → Bool) (ao bo : Option Addr) (la lb : List Nat) (ca cb : Nat) (w : World) (hsa : Sl (NatIn .u32) 1 (mk X w) ao la) (hsb : Sl (NatIn .u32) 1 (mk X w) bo lb)
    (hda : Dig la) (hdb : Dig lb) (hla : la.length ≤ 1099511627776) (hlb : lb.length ≤ 1099511627776) (hca : la.length ≤ ca) (hcb : lb.length ≤ cb) (hX : ∀ k, X k = true → k < w.heap.size) (na nb : Nat) (hna : val la = na) (hnb : val lb = nb) :
    Calls Tryz.prog 158 #[.slice ao la.length ca, .slice bo lb.length cb] w (NatOut X w (Nat.gcd na nb)) := by
  go_enter Tryz.func158, Tryz.ntmps158
  go_wp2_with fail
  refine (value_any X _ _ _ _ hsa hda (by omega) hca).mono ?_
  rintro e w' ⟨rfl, ao1, ca1, a, rfl, hca1, hal, hcan, hsa1⟩
  go_wp2_with fail
  refine (value_any X _ _ _ _ hsb hdb (by omega) hcb).mono ?_
  rintro e w' ⟨rfl, bo1, cb1, b, rfl, hcb1, hbl, hcbn, hsb1⟩
  rw [hna] at hcan
  rw [hnb] at hcbn
  have hal' : a.length ≤ 1099511627776 := Nat.le_trans hal hla
  have hbl' : b.length ≤ 1099511627776 := Nat.le_trans hbl hlb
  obtain ⟨g, hg⟩ : ∃ g, Nat.gcd na nb = g := ⟨_, rfl⟩
  rw [hg]
  have hg' := hid hg
  have hc1 := hid hcan
  have hc2 := hid hcbn
  clear hna hnb hal hbl hsa hsb hla hlb hca hcb hda hdb hg hcan hcbn
  go_wp2_with fail
  go_loopw [0, 1] (fun x y wr => ∃ (p q : Nat) (ao bo : Option Addr) (a b : List Nat) (ca cb : Nat), x = .slice ao a.length ca ∧ y = .slice bo b.length cb ∧ a.length ≤ ca ∧ b.length ≤ cb ∧ a.length ≤ 1099511627776 ∧ b.length ≤ 1099511627776 ∧ Hid (Canon a p) ∧ Hid (Canon b q) ∧ Hid (Nat.gcd p q = g) ∧
    Sl (NatIn .u32) 1 (mk X wr) ao a ∧ Sl (NatIn .u32) 1 (mk X wr) bo b ∧ Ext w wr) (fun _ y W => nvAt W y)
  case atStart => exact ⟨na, nb, _, _, _, _, _, _, rfl, rfl, hca1, hcb1, hal', hbl', hc1, hc2, hg', hsa1, hsb1, ExtX.refl _⟩
  case round =>
    clear hc1 hc2 hsa1 hsb1 hca1 hcb1 hal' hbl'
    obtain ⟨p, q, ao2, bo2, a2, b2, ca2, cb2, rfl, rfl, hca, hcb, hal, hbl, hc1, hc2, hg, hsa, hsb, hE⟩ := hrel
    have hX2 : ∀ k, X k = true → k < wr.heap.size := fun k hk => Nat.lt_of_lt_of_le (hX k hk) hE.size
    by_cases hq : 0 < b2.length
    · have hq0 : Hid (0 < q) := hid (by have := canon_len0 hc2.out; omega)
      have hqI : (0 : Int) < (b2.length : Int) := by omega
      have hd1 := hc1.out.1
      have hd2 := hc2.out.1
      have hv1 := hid hc1.out.val
      have hv2 := hid hc2.out.val
      go_wp2_with fail
      refine (uint_any X ao2 a2 ca2 wr hsa hd1 hal hca p hv1.out).mono ?_
      rintro e w' ⟨rfl, hu1⟩
      rcases hu1 with ⟨u1, rfl⟩ | ⟨u1, rfl⟩
      · have u1' := hid u1
        clear u1
        go_wp2_with fail
        refine (uint_any X bo2 b2 cb2 wr hsb hd2 hbl hcb q hv2.out).mono ?_
        rintro e w' ⟨rfl, hu2⟩
        rcases hu2 with ⟨u2, rfl⟩ | ⟨u2, rfl⟩
        · have hgl : Nat.gcd p q < 18446744073709551616 := Nat.lt_of_le_of_lt (Nat.gcd_le_right _ hq0.out) u2
          rw [hg.out] at hgl
          have u2' := hid u2
          have hgl' := hid hgl
          have hgc := gcd64_any p q wr u1'.out u2'.out
          rw [hg.out] at hgc
          clear u2 hgl
          go_wp2_with fail
          refine hgc.mono ?_
          rintro e w2 ⟨rfl, m, rfl⟩
          go_wp2_with fail
          refine (fromUint_any X g (wr.drewN m) hgl'.out hX2).mono ?_
          rintro e w3 ⟨hE3, ao3, ca3, l3, rfl, hc3, hcan3, hs3⟩
          go_wp2_with fail
          go_ret
          exact ⟨hE.trans (((ExtX.refl wr).drewN m).trans hE3), ao3, ca3, l3, rfl, hc3, by rw [hg'.out]; exact hcan3, hs3⟩
        · clear u2
          go_wp2_with fail
          refine (div_any X ao2 bo2 a2 b2 ca2 cb2 wr hsa hsb hd1 hd2 hal hbl hca hcb hX2 p q hv1.out hv2.out hq0.out).mono ?_
          rintro e w3 ⟨hE3, ao3, ca3, l3, bo4, cb4, l4, rfl, hc3, hcan3, hs3, hc4, hcan4, hs4⟩
          go_wp2_with fail
          have hl4 : l4.length ≤ 1099511627776 := by
            have h1 : l4.length ≤ b2.length := by rw [hcan4.len, hc2.out.len]; exact lg_mono (Nat.le_of_lt (Nat.mod_lt _ hq0.out))
            omega
          have hst : Hid (Nat.gcd q (p % q) = g) := hid (by rw [Nat.gcd_comm, ← Nat.gcd_rec, Nat.gcd_comm]; exact hg.out)
          have hsb3 := hsb.mono (NatIn.mono _) (mk_ext hE3)
          have hm1 := nvAt_eq cb4 hs4
          have hm2 := nvAt_eq cb2 hsb
          rw [hcan4.2.2] at hm1
          rw [hc2.out.2.2] at hm2
          have hlt := Nat.mod_lt p hq0.out
          have hcan4' := hid hcan4
          have hm1' := hid hm1
          have hm2' := hid hm2
          clear hcan3 hs3 hcan4 hm1 hm2 hv1 hv2
          go_roundw
          case rel => exact ⟨q, p % q, _, _, _, _, _, _, rfl, rfl, hcb, hc4, hbl, hl4, hc2, hcan4', hst, hsb3, hs4, hE.trans hE3⟩
          case measure => rw [hm1'.out, hm2'.out]; exact hlt
      · clear u1
        go_wp2_with fail
        refine (uint_any X bo2 b2 cb2 wr hsb hd2 hbl hcb q hv2.out).mono ?_
        rintro e w' ⟨rfl, hu2⟩
        rcases hu2 with ⟨u2, rfl⟩ | ⟨u2, rfl⟩
        all_goals
          clear u2
          go_wp2_with fail
          refine (div_any X ao2 bo2 a2 b2 ca2 cb2 wr hsa hsb hd1 hd2 hal hbl hca hcb hX2 p q hv1.out hv2.out hq0.out).mono ?_
          rintro e w3 ⟨hE3, ao3, ca3, l3, bo4, cb4, l4, rfl, hc3, hcan3, hs3, hc4, hcan4, hs4⟩
          go_wp2_with fail
          have hl4 : l4.length ≤ 1099511627776 := by
            have h1 : l4.length ≤ b2.length := by rw [hcan4.len, hc2.out.len]; exact lg_mono (Nat.le_of_lt (Nat.mod_lt _ hq0.out))
            omega
          have hst : Hid (Nat.gcd q (p % q) = g) := hid (by rw [Nat.gcd_comm, ← Nat.gcd_rec, Nat.gcd_comm]; exact hg.out)
          have hsb3 := hsb.mono (NatIn.mono _) (mk_ext hE3)
          have hm1 := nvAt_eq cb4 hs4
          have hm2 := nvAt_eq cb2 hsb
          rw [hcan4.2.2] at hm1
          rw [hc2.out.2.2] at hm2
          have hlt := Nat.mod_lt p hq0.out
          have hcan4' := hid hcan4
          have hm1' := hid hm1
          have hm2' := hid hm2
          clear hcan3 hs3 hcan4 hm1 hm2 hv1 hv2
          go_roundw
          case rel => exact ⟨q, p % q, _, _, _, _, _, _, rfl, rfl, hcb, hc4, hbl, hl4, hc2, hcan4', hst, hsb3, hs4, hE.trans hE3⟩
          case measure => rw [hm1'.out, hm2'.out]; exact hlt
    · have hq0 : q = 0 := by have := canon_len0 hc2.out; omega
      subst hq0
      have hfin := hg.out
      rw [Nat.gcd_zero_right] at hfin
      have hfin' := hid hfin
      clear hfin
      have hcc := hc1.out
      clear hg hc2
      go_wp2_with fail
      refine (clone_any X ao2 a2 ca2 wr p hsa hcc (by omega) hX2).mono ?_
      rintro e w3 ⟨hE3, ao3, ca3, l3, rfl, hc3, hcan3, hs3⟩
      go_wp2_with fail
      go_ret
      exact ⟨hE.trans hE3, ao3, ca3, l3, rfl, hc3, by rw [hg'.out, ← hfin'.out]; exact hcan3, hs3⟩
end Go.Proofs.YtjbhcniiioepgaaGreat

namespace Go.Proofs.YtjbhcniiioepgaaGreat
open Go.RowKit Go.Rep Go.Lim

theorem rvalid_any (X : Nat → Bool) (ao : Option Addr) (l : List Nat) (cap : Nat) (w : World) (hs : Sl (NatIn .u32) 1 (mk X w) ao l) (hl : l.length ≤ 4398046511104) :
    Calls Tryz.prog 160 #[.slice ao l.length cap] w fun e w' => w = w' ∧ e = .returned (.bool (validL l)) := by
  have hh := hs.hd
  by_cases h0 : l.length = 0
  · have hl0 : l = [] := List.eq_nil_of_length_eq_zero h0
    subst hl0
    clear hs hh hl h0
    simp only [List.length_nil]
    go_enter Tryz.func160, Tryz.ntmps160
    go_wp2_with fail
    go_ret
    exact ⟨rfl, rfl⟩
  · have hc := hs.nat (l.length - 1) (by omega)
    have hv := hid (validL_last (l := l) (by omega))
    have hz : ((l.length : Int) == 0) = false := beqF (by omega)
    go_enter Tryz.func160, Tryz.ntmps160
    go_wp2_with (with_reducible refine up_ix1 slU32 (by omega) (by assumption) ?_)
    go_ret
    exact ⟨rfl, ret_bool (by rw [hv.out]; exact cast_bne0 _)⟩

theorem rtake_any (X : Nat → Bool) (ao : Option Addr) (l : List Nat) (cap : Nat) (w : World) (hs : Sl (NatIn .u32) 1 (mk X w) ao l) (hd : Dig l) (hl : l.length ≤ 4398046511104) (hX : ∀ k, X k = true → k < w.heap.size) :
    Calls Tryz.prog 134 #[.slice ao l.length cap] w (NatOut X w (val l)) := by
  cases hv : validL l
  · have hv' := hid hv
    go_enter Tryz.func134, Tryz.ntmps134
    go_wp2_with (go_at_call 160; refine (rvalid_any X _ _ _ _ hs hl).mono ?_; rintro e w' ⟨rfl, rfl⟩)
    go_ret
    have : vl l = [] := by unfold vl; rw [hv]; rfl
    exact ⟨ExtX.refl _, none, 0, [], rfl, by simp, this ▸ vl_canon hd, Sl.nil _ _ _ _⟩
  · have hv' := hid hv
    have hO := OL.nil (NatIn .u32) 1 X w.heap.size 123 w
    have hs2 : Sl (NatIn .u32) 1 (mk (un X none) w) ao l := hs.mono (NatIn.mono _) (mk_sub fun k _ hk => by simpa [un, ob] using hk)
    go_enter Tryz.func134, Tryz.ntmps134
    go_wp2_with (first | (go_at_call 160; refine (rvalid_any X _ _ _ _ hs hl).mono ?_; rintro e w' ⟨rfl, rfl⟩) | (at_builtin; refine st_appendl (l := []) slU32 rfl (NatIn.elem .u32) (Nat.le_refl _) hX l rfl rfl hO hs2 (by simp; omega) (by simp; omega) ?_; intro ao2 cap2 w2 hO2 hE2 _))
    go_ret
    have : vl l = l := by unfold vl; rw [hv]; rfl
    have hc := vl_canon hd
    rw [this] at hc
    exact ⟨(ExtX.refl w).own hO (Nat.le_refl _) hE2, _, _, l, rfl, by simpa using hO2.lenCap, hc, by simpa using hO2.sl (NatIn.elem _)⟩

theorem rtrim_any (X : Nat → Bool) (ao : Option Addr) (l : List Nat) (cap : Nat) (w : World) (hs : Sl (NatIn .u32) 1 (mk X w) ao l) (hd : Dig l) (hl : l.length ≤ 4398046511104) (hcap : l.length ≤ cap) :
    Calls Tryz.prog 210 #[.slice ao l.length cap] w (TrimOut X w ao l cap) := by
  have hh := hs.hd
  go_enter Tryz.func210, Tryz.ntmps210
  go_wp2_with fail
  go_loop [0] (fun s => ∃ k : Nat, s = .slice ao k cap ∧ Cut l k) (fun s => lenOf s)
  case atStart => exact ⟨_, rfl, Cut.all l⟩
  case round =>
    obtain ⟨k, rfl, hk⟩ := hrel
    have hkl := hk.1
    by_cases hlt : 0 < k
    · have hc := hs.nat (k - 1) (by omega)
      have hhk : Hd ao k := fun _ => hh (by omega)
      by_cases hz : l[k - 1] = 0
      · have hk' := hk.less hlt hz
        have hz' := hid hz
        rw [hz] at hc
        clear hz
        go_wp2_with (with_reducible refine up_ix1 slU32 (by omega) (by assumption) ?_)
        go_round
        case rel => exact ⟨k - 1, by go_num, hk'⟩
        case measure => simp [lenOf]; omega
      · have hcn := hk.canon hd (.inr ⟨by omega, hz⟩)
        have hz' : ((l[k - 1] : Int) == 0) = false := beqF (by omega)
        go_wp2_with (with_reducible refine up_ix1 slU32 (by omega) (by assumption) ?_)
        go_ret
        exact ⟨rfl, l.take k, ret_slice (by simp; omega), by simp; omega, hcn, hs.take k⟩
    · have hcn := hk.canon hd (.inl (by omega))
      go_wp2_with fail
      go_ret
      exact ⟨rfl, l.take k, ret_slice (by simp; omega), by simp; omega, hcn, hs.take k⟩

theorem rlimb_any (X : Nat → Bool) (ao : Option Addr) (l : List Nat) (cap : Nat) (i : Nat) (w : World) (hs : Sl (NatIn .u32) 1 (mk X w) ao l) (hd : Dig l) (hi : i ≤ 4398046511104) (x : Nat) (hx : l.getD i 0 = x) :
    Calls Tryz.prog 209 #[.slice ao l.length cap, .int .i64 i] w fun e w' => w = w' ∧ e = .returned (.int .u64 x) := by
  have hh := hs.hd
  have hx' := hid hx
  clear hx
  by_cases h : i < l.length
  · have hc := hs.nat i h
    have hD : l.getD i 0 = l[i] := by simp [List.getD, h]
    have hD' := hid hD
    have hdi := hd.get i h
    rw [B_eq] at hdi
    go_enter Tryz.func209, Tryz.ntmps209
    go_wp2_with (with_reducible refine up_ix1 slU32 (by omega) (by assumption) ?_)
    go_ret
    exact ⟨rfl, ret_int (by rw [← hx'.out, hD'.out])⟩
  · have hD : l.getD i 0 = 0 := by simp [List.getD, h]
    have hD' := hid hD
    go_enter Tryz.func209, Tryz.ntmps209
    go_wp2_with (with_reducible refine up_ix1 slU32 (by omega) (by assumption) ?_)
    go_ret
    exact ⟨rfl, ret_int (by rw [← hx'.out, hD'.out]; rfl)⟩
theorem rfromUint_any (X : Nat → Bool) (n : Nat) (w : World) (hn : n < 18446744073709551616) (hX : ∀ k, X k = true → k < w.heap.size) :
    Calls Tryz.prog 172 #[.int .u64 n] w (NatOut X w n) := by
  have hO : OL (NatIn .u32) 1 X w.heap.size 123 (w.alloc (.cells #[.int .u32 ((n : Int) % 4294967296), .int .u32 ((n : Int) / 4294967296)] 123)) (some ⟨w.heap.size, 0, none⟩) 2 [n % 4294967296, n / 4294967296] :=
    OL.lit (NatIn.elem .u32) hX (Nat.le_refl _) [.int .u32 ((n % 4294967296 : Nat) : Int), .int .u32 ((n / 4294967296 : Nat) : Int)] [n % 4294967296, n / 4294967296] _ (by simp [cellsL, Value.cells]) rfl
      (fun i hi _ => by match i, hi with
                        | 0, _ => rfl
                        | 1, _ => rfl) (by simp)
  go_enter Tryz.func172, Tryz.ntmps172
  go_wp2_with fail
  refine (rtrim_any X _ [n % 4294967296, n / 4294967296] _ _ (hO.sl (NatIn.elem .u32)) (Dig.cons (by rw [B_eq]; exact Nat.mod_lt _ (by decide)) (Dig.cons (by rw [B_eq]; omega) Dig.nil)) (by simp) (by simp)).mono ?_
  rintro e w' ⟨rfl, l', rfl, hl', hc, hs'⟩
  go_wp2_with fail
  go_ret
  have hv : nv [n % 4294967296, n / 4294967296] = n := by simp only [nv, B_eq]; omega
  rw [hv] at hc
  exact ⟨(ExtX.refl w).alloc _, _, 2, _, rfl, by simpa using hl', hc, hs'⟩

theorem rcompare0_any (X : Nat → Bool) (ao1 bo1 : Option Addr) (a b : List Nat) (ca1 cb1 : Nat) (w : World) (hsa1 : Sl (NatIn .u32) 1 (mk X w) ao1 a) (hsb1 : Sl (NatIn .u32) 1 (mk X w) bo1 b)
    (hal' : a.length ≤ 1099511627776) (na nb : Nat) (hcan : Canon a na) (hcbn : Canon b nb) :
    Calls Tryz.prog 221 #[.slice ao1 a.length ca1, .slice bo1 b.length cb1] w (IntOut w (cmpN na nb)) := by
  have hha := hsa1.hd
  have hhb := hsb1.hd
  by_cases hlt : a.length < b.length
  · have hv := hid (cmpN_of_len_lt hcan hcbn hlt)
    have hne : ((a.length : Int) != b.length) = true := bneT (by omega)
    go_enter Tryz.func221, Tryz.ntmps221
    go_wp2_with fail
    go_ret
    exact ⟨ExtX.refl _, ret_int hv.out.symm⟩
  by_cases hgt : b.length < a.length
  · have hv := hid (cmpN_of_len_gt hcan hcbn hgt)
    have hne : ((a.length : Int) != b.length) = true := bneT (by omega)
    go_enter Tryz.func221, Tryz.ntmps221
    go_wp2_with fail
    go_ret
    exact ⟨ExtX.refl _, ret_int hv.out.symm⟩
  have hne : ((a.length : Int) != b.length) = false := bneF (by omega)
  have heq : Hid (a.length = b.length) := hid (by omega)
  have hbl : b.length ≤ a.length := by omega
  have hab : a.length ≤ b.length := by omega
  clear hlt hgt
  go_enter Tryz.func221, Tryz.ntmps221
  go_wp2_with fail
  go_loopw [5] (fun i wr => ∃ k : Nat, i = .int .i64 ((k : Int) - 1) ∧ k ≤ a.length ∧ Hid (a.drop k = b.drop k) ∧ Ext w wr) (fun i _ => (intOf i + 1).toNat)
  case atStart => exact ⟨a.length, rfl, Nat.le_refl _, hid (by rw [List.drop_of_length_le (Nat.le_refl _), List.drop_of_length_le hbl]), ExtX.refl _⟩
  case round =>
    obtain ⟨k, rfl, hk, hdr, hE⟩ := hrel
    by_cases hlt : 0 < k
    · have c1 := (hsa1.mono (NatIn.mono _) (mk_ext hE)).nat (k - 1) (by omega)
      have c2 := (hsb1.mono (NatIn.mono _) (mk_ext hE)).nat (k - 1) (by omega)
      have i1 : ∀ W, (Instr.indexAt 27 (.slice ao1 a.length ca1) (.int .i64 ((k : Int) - 1))).run Tryz.prog W = .ok (.pointer (some (adr ao1 (k - 1)))) W := run_ix1 slU32 ao1 a.length ca1 .i64 (k - 1) hha (by omega) (by omega)
      have i2 : ∀ W, (Instr.indexAt 27 (.slice bo1 b.length cb1) (.int .i64 ((k : Int) - 1))).run Tryz.prog W = .ok (.pointer (some (adr bo1 (k - 1)))) W := run_ix1 slU32 bo1 b.length cb1 .i64 (k - 1) hhb (by omega) (by omega)
      by_cases h1 : a[k - 1] < b[k - 1]
      · have hv := hid (cmpN_of_lt hcan hcbn heq.out hlt hk hdr.out h1)
        have t1 : ((a[k - 1] : Int) < (b[k - 1] : Int)) := by omega
        go_wp2_with fail
        go_quiet (fail)
        go_wp2_with fail
        go_ret
        exact ⟨hE.drewN _, ret_int hv.out.symm⟩
      by_cases h2 : b[k - 1] < a[k - 1]
      · have hv := hid (cmpN_of_gt hcan hcbn heq.out hlt hk hdr.out h2)
        go_wp2_with fail
        go_quiet (fail)
        go_wp2_with fail
        go_quiet (fail)
        go_wp2_with fail
        go_ret
        exact ⟨(hE.drewN _).drewN _, ret_int hv.out.symm⟩
      · have hdr' := hid (drop_eq_pred heq.out hlt hk hdr.out (by omega))
        go_wp2_with fail
        go_quiet (fail)
        go_wp2_with fail
        go_quiet (fail)
        go_wp2_with fail
        go_roundw
        case rel => exact ⟨k - 1, by go_num, by omega, hdr', hE.drewN _⟩
        case measure => simp [intOf]; omega
    · have hv := hid (cmpN_of_eq hcan hcbn (k := k) (by omega) hdr.out)
      go_wp2_with fail
      go_ret
      exact ⟨hE, ret_int hv.out.symm⟩

theorem radd_any (X : Nat → Bool) (ao bo : Option Addr) (la lb : List Nat) (ca cb : Nat) (w : World) (hsa : Sl (NatIn .u32) 1 (mk X w) ao la) (hsb : Sl (NatIn .u32) 1 (mk X w) bo lb)
    (hda : Dig la) (hdb : Dig lb) (hla : la.length ≤ 1099511627776) (hlb : lb.length ≤ 1099511627776) (hX : ∀ k, X k = true → k < w.heap.size) (na nb : Nat) (hna : val la = na) (hnb : val lb = nb) :
    Calls Tryz.prog 171 #[.slice ao la.length ca, .slice bo lb.length cb] w (NatOut X w (na + nb)) := by
  go_enter Tryz.func171, Tryz.ntmps171
  go_wp2_with fail
  refine (rtake_any X _ _ _ _ hsa hda (by omega) hX).mono ?_
  rintro e w1 ⟨hE1, ao1, ca1, a, rfl, hca1, hcan, hsa1⟩
  have hX1 : ∀ k, X k = true → k < w1.heap.size := fun k hk => Nat.lt_of_lt_of_le (hX k hk) hE1.size
  go_wp2_with fail
  refine (rtake_any X _ _ _ _ (hsb.mono (NatIn.mono _) (mk_ext hE1)) hdb (by omega) hX1).mono ?_
  rintro e w2 ⟨hE2, bo1, cb1, b, rfl, hcb1, hcbn, hsb1⟩
  have hX2 : ∀ k, X k = true → k < w2.heap.size := fun k hk => Nat.lt_of_lt_of_le (hX1 k hk) hE2.size
  have hal : a.length ≤ 1099511627776 := by rw [hcan.len]; exact Nat.le_trans (val_lg la hda) hla
  have hbl : b.length ≤ 1099511627776 := by rw [hcbn.len]; exact Nat.le_trans (val_lg lb hdb) hlb
  replace hsa1 := hsa1.mono (NatIn.mono _) (mk_ext hE2)
  rw [hna] at hcan
  rw [hnb] at hcbn
  have hsum : Hid (nv a + nv b = na + nb) := hid (by rw [hcan.2.2, hcbn.2.2])
  have hda1 := hcan.1
  have hdb1 := hcbn.1
  have hEE := hE1.trans hE2
  clear hna hnb hsa hsb hla hlb hcan hcbn hda hdb hE1 hE2 hX1
  obtain ⟨m, hm⟩ : ∃ m, max a.length b.length = m := ⟨_, rfl⟩
  have hma : a.length ≤ m := by omega
  have hmb : b.length ≤ m := by omega
  have hml : m ≤ 1099511627776 := by omega
  have hmx : (if a.length < b.length then (b.length : Int) else (a.length : Int)) = (m : Int) := by split <;> omega
  have hm' := hid hm
  clear hm
  go_wp2_with fail
  go_loopw [5, 6, 7] (fun v c i wr => ∃ (k : Nat) (o : List Nat) (cy : Nat) (oo : Option Addr) (cp : Nat), i = .int .i64 k ∧ c = .int .u64 cy ∧ v = .slice oo o.length cp ∧ k ≤ m + 1 ∧ RAddInv a b o k cy ∧ OL (NatIn .u32) 1 X w2.heap.size 123 wr oo cp o ∧ Ext w2 wr) (fun _ _ i _ => m + 1 - (intOf i).toNat)
  case atStart => exact ⟨0, [], 0, none, 0, rfl, rfl, rfl, by omega, RAddInv.start a b, OL.nil _ _ _ _ _ _, ExtX.refl _⟩
  case round =>
    obtain ⟨k, o, cy, oo, cp, rfl, rfl, rfl, hk, hinv, hO, hE⟩ := hrel
    have hol := hid hinv.1
    have hcy := hinv.2.2.1
    have hXr : ∀ k, X k = true → k < wr.heap.size := fun k hk => Nat.lt_of_lt_of_le (hX2 k hk) hE.size
    have hbase : w2.heap.size ≤ wr.heap.size := hE.size
    by_cases hlt : k ≤ m
    · have hsa2 := hsa1.mono (NatIn.mono _) (mk_ext hE)
      have hsb2 := hsb1.mono (NatIn.mono _) (mk_ext hE)
      have hst := hinv.step hda1 hdb1
      have hx := hda1.getD k
      have hy := hdb1.getD k
      rw [B_eq] at hx hy
      obtain ⟨x, hxe⟩ : ∃ x, a.getD k 0 = x := ⟨_, rfl⟩
      obtain ⟨y, hye⟩ : ∃ y, b.getD k 0 = y := ⟨_, rfl⟩
      rw [hxe, hye] at hst
      rw [hxe] at hx
      rw [hye] at hy
      have hxe' := hid hxe
      have hye' := hid hye
      clear hxe hye
      go_wp2_with fail
      refine (rlimb_any X ao1 a ca1 k _ hsa2 hda1 (by omega) x hxe'.out).mono ?_
      rintro e w' ⟨rfl, rfl⟩
      go_wp2_with fail
      refine (rlimb_any X bo1 b cb1 k _ hsb2 hdb1 (by omega) y hye'.out).mono ?_
      rintro e w' ⟨rfl, rfl⟩
      have hlen : o.length ≤ 2199023255552 := by rw [hol.out]; omega
      go_wp2_with (at_builtin; refine st_append1 slU32 rfl (NatIn.elem .u32) hbase hXr rfl rfl hO (.int .u32 (((x + y + cy) % 4294967296 : Nat) : Int)) ((x + y + cy) % 4294967296) (by simp [Value.cells]) rfl (by omega) (by omega) ?_; intro ao2 cap2 w3 hO2 hE2 _)
      go_roundw
      case rel => exact ⟨k + 1, _, (x + y + cy) / 4294967296, ao2, cap2, by go_num, by simp, by simp, by omega, hst, hO2, hE.own hO (Nat.le_refl _) hE2⟩
      case measure => simp [intOf]; omega
    · have hke : k = m + 1 := by omega
      subst hke
      have hdn := hinv.done hda1 hdb1 hma hmb
      have hod := hinv.2.1
      have hs3 := hO.sl (NatIn.elem .u32)
      have hlen : o.length ≤ 2199023255552 := by rw [hol.out]; omega
      have hlc := hO.lenCap
      have hdn' := hid hdn
      clear hdn
      go_wp2_with fail
      refine (rtrim_any X _ _ _ _ hs3 hod (by omega) hlc).mono ?_
      rintro e w' ⟨rfl, l', rfl, hl', hc, hs'⟩
      go_wp2_with fail
      go_ret
      rw [hdn'.out, hsum.out] at hc
      exact ⟨hEE.trans hE, _, _, _, rfl, by omega, hc, hs'⟩

theorem rcompare_any (X : Nat → Bool) (ao bo : Option Addr) (la lb : List Nat) (ca cb : Nat) (w : World) (hsa : Sl (NatIn .u32) 1 (mk X w) ao la) (hsb : Sl (NatIn .u32) 1 (mk X w) bo lb)
    (hda : Dig la) (hdb : Dig lb) (hla : la.length ≤ 1099511627776) (hlb : lb.length ≤ 1099511627776) (hX : ∀ k, X k = true → k < w.heap.size) (na nb : Nat) (hna : val la = na) (hnb : val lb = nb) :
    Calls Tryz.prog 219 #[.slice ao la.length ca, .slice bo lb.length cb] w (IntOut w (cmpN na nb)) := by
  go_enter Tryz.func219, Tryz.ntmps219
  go_wp2_with fail
  refine (rtake_any X _ _ _ _ hsa hda (by omega) hX).mono ?_
  rintro e w1 ⟨hE1, ao1, ca1, a, rfl, hca1, hcan, hsa1⟩
  have hX1 : ∀ k, X k = true → k < w1.heap.size := fun k hk => Nat.lt_of_lt_of_le (hX k hk) hE1.size
  go_wp2_with fail
  refine (rtake_any X _ _ _ _ (hsb.mono (NatIn.mono _) (mk_ext hE1)) hdb (by omega) hX1).mono ?_
  rintro e w2 ⟨hE2, bo1, cb1, b, rfl, hcb1, hcbn, hsb1⟩
  have hal : a.length ≤ 1099511627776 := by rw [hcan.len]; exact Nat.le_trans (val_lg la hda) hla
  replace hsa1 := hsa1.mono (NatIn.mono _) (mk_ext hE2)
  rw [hna] at hcan
  rw [hnb] at hcbn
  clear hna hnb
  go_wp2_with fail
  refine (rcompare0_any X ao1 bo1 a b ca1 cb1 _ hsa1 hsb1 hal na nb hcan hcbn).mono ?_
  rintro e w3 ⟨hE3, rfl⟩
  go_wp2_with fail
  go_ret
  exact ⟨(hE1.trans hE2).trans hE3, rfl⟩

end Go.Proofs.YtjbhcniiioepgaaGreat

namespace Go.Lim

/-- In the reference's Sub: i digits done, the borrow. -/
def RSubInv (a b o : List Nat) (i c : Nat) : Prop := o.length = i ∧ Dig o ∧ c ≤ 1 ∧ nv o + nv (b.take i) = nv (a.take i) + B ^ i * c
theorem RSubInv.start (a b : List Nat) : RSubInv a b [] 0 0 := ⟨rfl, Dig.nil, by omega, by simp [nv]⟩
theorem RSubInv.step {a b o : List Nat} {i c x y : Nat} (h : RSubInv a b o i c) (hx : a.getD i 0 = x) (hy : b.getD i 0 = y) (ha : Dig a) (hb : Dig b) : RSubInv a b (o ++ [subD x y c]) (i + 1) (subC x y c) := by
  obtain ⟨h1, h2, h3, h4⟩ := h
  have hxB := ha.getD i
  have hyB := hb.getD i
  rw [hx] at hxB
  rw [hy] at hyB
  obtain ⟨e1, e2, e3⟩ := subD_eq hxB hyB h3
  refine ⟨by simp [h1], h2.append (Dig.cons e2 Dig.nil), e3, ?_⟩
  rw [nv_snoc, h1, nv_take_getD, nv_take_getD, hx, hy, Nat.pow_succ]
  generalize subD x y c = d at *
  generalize subC x y c = c' at *
  have e4 : B ^ i * (d + y + c) = B ^ i * (x + B * c') := by rw [e1]
  rw [Nat.mul_add, Nat.mul_add, Nat.mul_add] at e4
  rw [Nat.mul_assoc]
  omega
theorem RSubInv.done {a b o : List Nat} {c : Nat} (h : RSubInv a b o a.length c) (hab : b.length ≤ a.length) (hle : nv b ≤ nv a) : nv o = nv a - nv b := by
  obtain ⟨h1, h2, h3, h4⟩ := h
  rw [List.take_of_length_le hab, List.take_of_length_le (Nat.le_refl _)] at h4
  have h5 := nv_lt h2
  rw [h1] at h5
  rcases (by omega : c = 0 ∨ c = 1) with rfl | rfl
  · omega
  · omega
theorem sub_digit {x y c : Nat} (hx : x < 4294967296) (hy : y < 4294967296) (hc : c ≤ 1) : (x + 4294967296 - y - c) % 4294967296 = subD x y c ∧ 1 - (x + 4294967296 - y - c) / 4294967296 = subC x y c := by
  unfold subD subC
  refine ⟨rfl, ?_⟩
  split <;> omega

/-- In 'times': i digits done behind the zeros, the carry. -/
def TimInv (a : List Nat) (v by_ : Nat) (o : List Nat) (i c : Nat) : Prop := o.length = by_ + i ∧ Dig o ∧ c < B ∧ nv o + B ^ (by_ + i) * c = B ^ by_ * (nv (a.take i) * v)
theorem TimInv.start (a : List Nat) (v by_ : Nat) : TimInv a v by_ (List.replicate by_ 0) 0 0 := ⟨by simp, Dig.zeros _, B_pos, by simp [nv, nv_zeros]⟩
theorem TimInv.step {a o : List Nat} {v by_ i c x : Nat} (h : TimInv a v by_ o i c) (hx : a.getD i 0 = x) (ha : Dig a) (hv : v < 4294967296) :
    TimInv a v by_ (o ++ [(x * v + c) % 4294967296]) (i + 1) ((x * v + c) / 4294967296) ∧ x * v + c < 18446744073709551616 := by
  obtain ⟨h1, h2, h3, h4⟩ := h
  have hxB := ha.getD i
  rw [hx, B_eq] at hxB
  rw [B_eq] at h3
  have hm : x * v ≤ 4294967295 * 4294967295 := Nat.mul_le_mul (by omega) (by omega)
  have hlt : x * v + c < 18446744073709551616 := by omega
  refine ⟨⟨by simp [h1]; omega, h2.append (Dig.cons (by rw [B_eq]; exact Nat.mod_lt _ (by decide)) Dig.nil), by rw [B_eq]; omega, ?_⟩, hlt⟩
  rw [nv_snoc, h1, nv_take_getD, hx, ← Nat.add_assoc, Nat.pow_succ]
  have e := Nat.div_add_mod (x * v + c) 4294967296
  generalize (x * v + c) / 4294967296 = q at *
  generalize (x * v + c) % 4294967296 = r at *
  have e1 : B ^ (by_ + i) * (4294967296 * q + r) = B ^ (by_ + i) * (x * v + c) := by rw [e]
  rw [Nat.mul_add, Nat.mul_add] at e1
  have e2 : B ^ (by_ + i) * B * q = B ^ (by_ + i) * (4294967296 * q) := by rw [B_eq, Nat.mul_assoc]
  have e3 : B ^ by_ * ((nv (a.take i) + B ^ i * x) * v) = B ^ by_ * (nv (a.take i) * v) + B ^ (by_ + i) * (x * v) := by
    rw [Nat.add_mul, Nat.mul_add, Nat.pow_add, Nat.mul_assoc (B ^ i), ← Nat.mul_assoc (B ^ by_) (B ^ i)]
  rw [e2, e3]
  omega
theorem TimInv.done {a o : List Nat} {v by_ c : Nat} (h : TimInv a v by_ o (a.length + 1) c) (ha : Dig a) (hv : v < 4294967296) : Dig o ∧ nv o = nv a * v * B ^ by_ := by
  obtain ⟨h1, h2, h3, h4⟩ := h
  rw [List.take_of_length_le (by omega)] at h4
  have h5 := nv_lt ha
  have hc : c = 0 := by
    by_cases h0 : c = 0
    · exact h0
    · have e1 : B ^ (by_ + (a.length + 1)) * 1 ≤ B ^ (by_ + (a.length + 1)) * c := Nat.mul_le_mul_left _ (by omega)
      have e2 : nv a * v < B ^ (a.length + 1) := by
        rw [Nat.pow_succ]
        exact Nat.lt_of_le_of_lt (Nat.mul_le_mul_left _ (Nat.le_of_lt (show v < B by rw [B_eq]; exact hv))) (Nat.mul_lt_mul_of_pos_right h5 B_pos)
      have e3 : B ^ by_ * (nv a * v) < B ^ by_ * B ^ (a.length + 1) := Nat.mul_lt_mul_of_pos_left e2 (Nat.pow_pos B_pos)
      rw [← Nat.pow_add] at e3
      omega
  subst hc
  exact ⟨h2, by rw [Nat.mul_zero, Nat.add_zero] at h4; rw [h4, Nat.mul_comm]⟩

/-- A bit of a number, read off its digits. -/
theorem digit_at {l : List Nat} (hd : Dig l) (k : Nat) : l.getD k 0 = nv l / B ^ k % B := by
  by_cases hk : k < l.length
  · have h1 := nv_split l k (by omega)
    have h2 := nv_take_lt hd k
    have h3 : nv (l.drop k) = l[k] + B * nv (l.drop (k + 1)) := nv_drop_eq hk
    have hQ : 0 < B ^ k := Nat.pow_pos B_pos
    rw [getD_of_lt hk, h1, Nat.add_mul_div_left _ _ hQ, Nat.div_eq_of_lt h2, Nat.zero_add, h3, Nat.add_mul_mod_self_left, Nat.mod_eq_of_lt (hd.get k hk)]
  · have h1 := nv_lt hd
    have h2 : B ^ l.length ≤ B ^ k := Nat.pow_le_pow_right B_pos (by omega)
    rw [getD_of_ge (by omega), Nat.div_eq_of_lt (by omega)]; simp
theorem bit_at {l : List Nat} {n : Nat} (h : Canon l n) (i : Nat) : l.getD (i / 32) 0 / 2 ^ (i % 32) % 2 = n / 2 ^ i % 2 := by
  rw [digit_at h.1, h.2.2]
  have e : i = 32 * (i / 32) + i % 32 := by omega
  have hs : i % 32 < 32 := Nat.mod_lt _ (by decide)
  generalize i / 32 = p at *
  generalize i % 32 = s at *
  subst e
  rw [B_two, Nat.pow_add, ← Nat.div_div_eq_div_mul]
  generalize n / 2 ^ (32 * p) = y
  have hB : B = 2 ^ s * (2 * 2 ^ (31 - s)) := by
    rw [B_eq, ← Nat.pow_succ', ← Nat.pow_add, show s + (31 - s).succ = 32 by omega]
  rw [hB, Nat.mod_mul_right_div_self]
  rw [Nat.mod_mul_right_mod]

/-- In the division bit by bit: i bits still to come. -/
def BitInv (a b q r i : Nat) : Prop := q = a / 2 ^ i / b ∧ r = a / 2 ^ i % b
theorem BitInv.start {a b k : Nat} (h : a < 2 ^ k) : BitInv a b 0 0 k := by
  unfold BitInv
  rw [Nat.div_eq_of_lt h]
  exact ⟨by simp, by simp⟩
theorem BitInv.step {a b q r i t : Nat} (h : BitInv a b q r (i + 1)) (hb : 0 < b) (ht : a / 2 ^ i % 2 = t) : r < b ∧ (2 * r + t < b → BitInv a b (2 * q) (2 * r + t) i) ∧ (b ≤ 2 * r + t → BitInv a b (2 * q + 1) (2 * r + t - b) i) := by
  obtain ⟨h1, h2⟩ := h
  rw [Nat.pow_succ, ← Nat.div_div_eq_div_mul] at h1 h2
  have e := Nat.div_add_mod (a / 2 ^ i) 2
  rw [ht] at e
  have e2 := Nat.div_add_mod (a / 2 ^ i / 2) b
  rw [← h1, ← h2] at e2
  have hr : r < b := by rw [h2]; exact Nat.mod_lt _ hb
  unfold BitInv
  generalize a / 2 ^ i = y at *
  generalize y / 2 = z at *
  have e3 : y = b * (2 * q) + (2 * r + t) := by
    rw [Nat.mul_left_comm]; omega
  refine ⟨hr, fun hlt => ?_, fun hge => ?_⟩
  · rw [e3]
    exact ⟨by rw [Nat.mul_add_div hb, Nat.div_eq_of_lt hlt, Nat.add_zero], by rw [Nat.mul_add_mod, Nat.mod_eq_of_lt hlt]⟩
  · have hlt : 2 * r + t - b < b := by omega
    have e4 : y = b * (2 * q + 1) + (2 * r + t - b) := by rw [e3, Nat.mul_add, Nat.mul_one]; omega
    rw [e4]
    exact ⟨by rw [Nat.mul_add_div hb, Nat.div_eq_of_lt hlt, Nat.add_zero], by rw [Nat.mul_add_mod, Nat.mod_eq_of_lt hlt]⟩
theorem BitInv.done {a b q r : Nat} (h : BitInv a b q r 0) : q = a / b ∧ r = a % b := by
  unfold BitInv at h; simpa using h
end Go.Lim

namespace Go.Rep
open Go.RowKit Go.Lim
/-- The blocks that X hides are there. -/
def HX (X : Nat → Bool) (w : World) : Prop := ∀ k, X k = true → k < w.heap.size
theorem HX.ext {X Y : Nat → Bool} {w w' : World} (h : HX X w) (hE : ExtX Y w w') : HX X w' := fun k hk => Nat.lt_of_lt_of_le (h k hk) hE.size
theorem HX.none (w : World) : HX noY w := fun k hk => by simp [noY] at hk
/-- Digits in a slice; the value n, 0 if they are no number in its only form. -/
def NV (h : Mem) (u : Value) (n : Nat) : Prop := ∃ ao c l, u = .slice ao l.length c ∧ l.length ≤ c ∧ Dig l ∧ l.length ≤ 1099511627776 ∧ Sl (NatIn .u32) 1 h ao l ∧ val l = n
/-- The only form of n in a slice. -/
def NC (h : Mem) (u : Value) (n : Nat) : Prop := ∃ ao c l, u = .slice ao l.length c ∧ l.length ≤ c ∧ Canon l n ∧ Sl (NatIn .u32) 1 h ao l
theorem NV.mono : Mono NV := by rintro h h' u x hl ⟨ao, c, l, rfl, h1, h2, h3, h4, h5⟩; exact ⟨ao, c, l, rfl, h1, h2, h3, h4.mono (NatIn.mono _) hl, h5⟩
theorem NC.mono : Mono NC := by rintro h h' u x hl ⟨ao, c, l, rfl, h1, h2, h3⟩; exact ⟨ao, c, l, rfl, h1, h2, h3.mono (NatIn.mono _) hl⟩
theorem NC.nv {h : Mem} {u : Value} {n : Nat} (hu : NC h u n) (hn : lg n ≤ 1099511627776) : NV h u n := by
  obtain ⟨ao, c, l, rfl, h1, h2, h3⟩ := hu
  exact ⟨ao, c, l, rfl, h1, h2.1, by rw [h2.len]; exact hn, h3, h2.val⟩
theorem NC.zero (h : Mem) : NC h (.slice none 0 0) 0 := ⟨none, 0, [], rfl, Nat.le_refl _, Canon.nil, Sl.nil _ _ _ _⟩
theorem NC.one {h : Mem} {ao : Option Addr} {c : Nat} (hc : 1 ≤ c) (hs : Sl (NatIn .u32) 1 h ao [1]) : NC h (.slice ao 1 c) 1 := ⟨ao, c, [1], rfl, hc, canon_of (by omega) (by omega), hs⟩
theorem NV.lg {h : Mem} {u : Value} {n : Nat} (hu : NV h u n) : lg n ≤ 1099511627776 := by
  obtain ⟨ao, c, l, rfl, h1, h2, h3, h4, rfl⟩ := hu
  exact Nat.le_trans (val_lg l h2) h3
/-- A value that R reads as x comes back; what was there is as it was. -/
def ROut {α : Type} (X : Nat → Bool) (w : World) (R : Mem → Value → α → Prop) (x : α) (e : Ending) (w' : World) : Prop := Ext w w' ∧ ∃ u, e = .returned u ∧ R (mk X w') u x
theorem mkx {X : Nat → Bool} {w w' : World} {α : Type} {R : Mem → Value → α → Prop} (hR : Mono R) {u : Value} {x : α} (h : R (mk X w) u x) (hE : Ext w w') : R (mk X w') u x := hR _ _ _ _ (mk_ext hE) h
end Go.Rep
namespace Go.Proofs.YtjbhcniiioepgaaGreat
open Go.RowKit Go.Rep Go.Lim

theorem NatOut.r {X : Nat → Bool} {w : World} {n : Nat} {e : Ending} {w' : World} (h : NatOut X w n e w') : ROut X w NC n e w' := by
  obtain ⟨hE, ao, c, l, rfl, h1, h2, h3⟩ := h
  exact ⟨hE, _, rfl, ao, c, l, rfl, h1, h2, h3⟩

section
variable {X : Nat → Bool} {w : World} {u v : Value} {a b : Nat}
theorem nadd (hX : HX X w) (hu : NV (mk X w) u a) (hv : NV (mk X w) v b) : Calls Tryz.prog 143 #[u, v] w (ROut X w NC (a + b)) := by
  obtain ⟨ao, c, l, rfl, h1, h2, h3, h4, h5⟩ := hu
  obtain ⟨bo, d, m, rfl, k1, k2, k3, k4, k5⟩ := hv
  exact (add_any X ao bo l m c d w h4 k4 h2 k2 h3 k3 h1 k1 hX a b h5 k5).mono fun _ _ h => h.r
theorem nmul (hX : HX X w) (hu : NV (mk X w) u a) (hv : NV (mk X w) v b) : Calls Tryz.prog 152 #[u, v] w (ROut X w NC (a * b)) := by
  obtain ⟨ao, c, l, rfl, h1, h2, h3, h4, h5⟩ := hu
  obtain ⟨bo, d, m, rfl, k1, k2, k3, k4, k5⟩ := hv
  exact (mul_any X ao bo l m c d w h4 k4 h2 k2 h3 k3 h1 k1 hX a b h5 k5).mono fun _ _ h => h.r
theorem ngcd (hX : HX X w) (hu : NV (mk X w) u a) (hv : NV (mk X w) v b) : Calls Tryz.prog 158 #[u, v] w (ROut X w NC (Nat.gcd a b)) := by
  obtain ⟨ao, c, l, rfl, h1, h2, h3, h4, h5⟩ := hu
  obtain ⟨bo, d, m, rfl, k1, k2, k3, k4, k5⟩ := hv
  exact (gcd_any X ao bo l m c d w h4 k4 h2 k2 h3 k3 h1 k1 hX a b h5 k5).mono fun _ _ h => h.r
theorem ncmp (hu : NV (mk X w) u a) (hv : NV (mk X w) v b) : Calls Tryz.prog 145 #[u, v] w (IntOut w (cmpN a b)) := by
  obtain ⟨ao, c, l, rfl, h1, h2, h3, h4, h5⟩ := hu
  obtain ⟨bo, d, m, rfl, k1, k2, k3, k4, k5⟩ := hv
  exact compare_any X ao bo l m c d w h4 k4 h2 k2 h3 k3 h1 k1 a b h5 k5
/-- Two numbers and true. -/
def DOut (X : Nat → Bool) (w : World) (q r : Nat) (e : Ending) (w' : World) : Prop := Ext w w' ∧ ∃ u v, e = .returned (.tuple #[u, v, .bool true]) ∧ NC (mk X w') u q ∧ NC (mk X w') v r
theorem ndiv (hX : HX X w) (hu : NV (mk X w) u a) (hv : NV (mk X w) v b) (hb : 0 < b) : Calls Tryz.prog 200 #[u, v] w (DOut X w (a / b) (a % b)) := by
  obtain ⟨ao, c, l, rfl, h1, h2, h3, h4, h5⟩ := hu
  obtain ⟨bo, d, m, rfl, k1, k2, k3, k4, k5⟩ := hv
  refine (div_any X ao bo l m c d w h4 k4 h2 k2 h3 k3 h1 k1 hX a b h5 k5 hb).mono ?_
  rintro e w' ⟨hE, a1, c1, l1, a2, c2, l2, rfl, q1, q2, q3, q4, q5, q6⟩
  exact ⟨hE, _, _, rfl, ⟨a1, c1, l1, rfl, q1, q2, q3⟩, ⟨a2, c2, l2, rfl, q4, q5, q6⟩⟩
/-- A number and whether it is one. -/
def SOut (X : Nat → Bool) (w : World) (d : Nat) (b : Bool) (e : Ending) (w' : World) : Prop := Ext w w' ∧ ∃ u, e = .returned (.tuple #[u, .bool b]) ∧ NC (mk X w') u d
theorem nsub (hX : HX X w) (hu : NV (mk X w) u a) (hv : NV (mk X w) v b) : Calls Tryz.prog 207 #[u, v] w (SOut X w (a - b) (decide (b ≤ a))) := by
  obtain ⟨ao, c, l, rfl, h1, h2, h3, h4, h5⟩ := hu
  obtain ⟨bo, d, m, rfl, k1, k2, k3, k4, k5⟩ := hv
  refine (sub_any X ao bo l m c d w h4 k4 h2 k2 h3 k3 h1 k1 hX a b h5 k5).mono ?_
  rintro e w' ⟨hE, a1, c1, l1, rfl, q1, q2, q3⟩
  exact ⟨hE, _, rfl, a1, c1, l1, rfl, q1, q2, q3⟩
theorem nfrom (hX : HX X w) (ha : a < 18446744073709551616) : Calls Tryz.prog 199 #[.int .u64 a] w (ROut X w NC a) :=
  (fromUint_any X a w ha hX).mono fun _ _ h => h.r
theorem rnadd (hX : HX X w) (hu : NV (mk X w) u a) (hv : NV (mk X w) v b) : Calls Tryz.prog 171 #[u, v] w (ROut X w NC (a + b)) := by
  obtain ⟨ao, c, l, rfl, h1, h2, h3, h4, h5⟩ := hu
  obtain ⟨bo, d, m, rfl, k1, k2, k3, k4, k5⟩ := hv
  exact (radd_any X ao bo l m c d w h4 k4 h2 k2 h3 k3 hX a b h5 k5).mono fun _ _ h => h.r
theorem rntake (hX : HX X w) (hu : NV (mk X w) u a) : Calls Tryz.prog 134 #[u] w (ROut X w NC a) := by
  obtain ⟨ao, c, l, rfl, h1, h2, h3, h4, rfl⟩ := hu
  exact (rtake_any X ao l c w h4 h2 (by omega) hX).mono fun _ _ h => h.r
theorem rnfrom (hX : HX X w) (ha : a < 18446744073709551616) : Calls Tryz.prog 172 #[.int .u64 a] w (ROut X w NC a) :=
  (rfromUint_any X a w ha hX).mono fun _ _ h => h.r
end
end Go.Proofs.YtjbhcniiioepgaaGreat

namespace Go.Proofs.YtjbhcniiioepgaaGreat
open Go.RowKit Go.Rep Go.Lim

theorem rnsub (X : Nat → Bool) (w : World) (u v : Value) (na nb : Nat) (hX : HX X w) (hu : NV (mk X w) u na) (hv : NV (mk X w) v nb) : Calls Tryz.prog 194 #[u, v] w (SOut X w (na - nb) (decide (nb ≤ na))) := by
  have hla := hu.lg
  have hlb := hv.lg
  go_enter Tryz.func194, Tryz.ntmps194
  go_wp2_with fail
  refine (rntake hX hu).mono ?_
  rintro e w1 ⟨hE1, u1, rfl, hu1⟩
  go_wp2_with fail
  refine (rntake (hX.ext hE1) (mkx NV.mono hv hE1)).mono ?_
  rintro e w2 ⟨hE2, v1, rfl, hv1⟩
  obtain ⟨ao, ca, a, rfl, hca, hcan, hsa⟩ := mkx NC.mono hu1 hE2
  obtain ⟨bo, cb, b, rfl, hcb, hcbn, hsb⟩ := hv1
  have hX2 := hX.ext (hE1.trans hE2)
  have hal : a.length ≤ 1099511627776 := by rw [hcan.len]; exact hla
  have hbl : b.length ≤ 1099511627776 := by rw [hcbn.len]; exact hlb
  have hE12 := hE1.trans hE2
  have hlen1 := hid hcan.len
  have hlen2 := hid hcbn.len
  clear hu hv hu1 hE1 hE2 hX hla hlb
  go_wp2_with fail
  refine (rcompare0_any X ao bo a b ca cb w2 hsa hsb hal na nb hcan hcbn).mono ?_
  rintro e w3 ⟨hE3, rfl⟩
  have hX3 := hX2.ext hE3
  have hE13 := hE12.trans hE3
  by_cases hlt : na < nb
  · have hc : cmpN na nb < 0 := (cmpN_lt _ _).2 hlt
    have hd : Hid (decide (nb ≤ na) = false) := hid (decide_eq_false (by omega))
    have hz : Hid (na - nb = 0) := hid (by omega)
    clear hlt
    go_wp2_with fail
    go_ret2
    exact ⟨hE13, .slice none 0 0, by rw [hd.out]; rfl, by rw [hz.out]; exact NC.zero _⟩
  · have hc : ¬ cmpN na nb < 0 := fun h => hlt ((cmpN_lt _ _).1 h)
    have hd : Hid (decide (nb ≤ na) = true) := hid (decide_eq_true (by omega))
    have hab : b.length ≤ a.length := by rw [hlen1.out, hlen2.out]; exact lg_mono (by omega)
    have hle : Hid (nv b ≤ nv a) := hid (by rw [hcan.2.2, hcbn.2.2]; omega)
    have hsum : Hid (nv a - nv b = na - nb) := hid (by rw [hcan.2.2, hcbn.2.2])
    have hda := hcan.1
    have hdb := hcbn.1
    have hsa3 := hsa.mono (NatIn.mono _) (mk_ext hE3)
    have hsb3 := hsb.mono (NatIn.mono _) (mk_ext hE3)
    clear hlt hcan hcbn hE3 hE12 hX2 hsa hsb hlen1 hlen2
    go_wp2_with fail
    go_loopw [6, 7, 8] (fun v c i wr => ∃ (k : Nat) (o : List Nat) (cy : Nat) (oo : Option Addr) (cp : Nat), i = .int .i64 k ∧ c = .int .u64 cy ∧ v = .slice oo o.length cp ∧ k ≤ a.length ∧ cy ≤ 1 ∧ Hid (RSubInv a b o k cy) ∧ o.length ≤ k ∧ OL (NatIn .u32) 1 X w3.heap.size 123 wr oo cp o ∧ Ext w3 wr) (fun _ _ i _ => a.length - (intOf i).toNat)
    case atStart => exact ⟨0, [], 0, none, 0, rfl, rfl, rfl, by omega, by omega, hid (RSubInv.start a b), by simp, OL.nil _ _ _ _ _ _, ExtX.refl _⟩
    case round =>
      obtain ⟨k, o, cy, oo, cp, rfl, rfl, rfl, hk, hcy, hinv, hol, hO, hE⟩ := hrel
      have hXr : ∀ k, X k = true → k < wr.heap.size := fun k hk => Nat.lt_of_lt_of_le (hX3 k hk) hE.size
      have hbase : w3.heap.size ≤ wr.heap.size := hE.size
      by_cases hlt : k < a.length
      · have hsa2 := hsa3.mono (NatIn.mono _) (mk_ext hE)
        have hsb2 := hsb3.mono (NatIn.mono _) (mk_ext hE)
        have hx := hda.getD k
        have hy := hdb.getD k
        rw [B_eq] at hx hy
        obtain ⟨x, hxe⟩ : ∃ x, a.getD k 0 = x := ⟨_, rfl⟩
        obtain ⟨y, hye⟩ : ∃ y, b.getD k 0 = y := ⟨_, rfl⟩
        rw [hxe] at hx
        rw [hye] at hy
        have hst := hid (hinv.out.step hxe hye hda hdb)
        have hsd := hid (sub_digit hx hy hcy)
        have hcy2 : subC x y cy ≤ 1 := by unfold subC; split <;> omega
        have hxe' := hid hxe
        have hye' := hid hye
        clear hxe hye hinv
        go_wp2_with fail
        refine (rlimb_any X ao a ca k _ hsa2 hda (by omega) x hxe'.out).mono ?_
        rintro e w' ⟨rfl, rfl⟩
        go_wp2_with fail
        refine (rlimb_any X bo b cb k _ hsb2 hdb (by omega) y hye'.out).mono ?_
        rintro e w' ⟨rfl, rfl⟩
        go_wp2_with (at_builtin; refine st_append1 slU32 rfl (NatIn.elem .u32) hbase hXr rfl rfl hO (.int .u32 ((subD x y cy : Nat) : Int)) (subD x y cy) (by rw [← hsd.out.1]; simp [Value.cells]; omega) rfl (by omega) (by omega) ?_; intro ao2 cap2 w5 hO2 hE2 _)
        have hcI : Hid ((1 : Int) - ((x : Int) + 4294967296 - (y : Int) - (cy : Int)) / 4294967296 = ((subC x y cy : Nat) : Int)) := hid (by have := hsd.out.2; omega)
        go_roundw
        case rel => exact ⟨k + 1, _, subC x y cy, ao2, cap2, by go_num, by rw [hcI.out], by simp, by omega, hcy2, hst, by simp; omega, hO2, hE.own hO (Nat.le_refl _) hE2⟩
        case measure => simp [intOf]; omega
      · have hke : k = a.length := by omega
        subst hke
        have hdn := hid (hinv.out.done hab hle.out)
        have hod := hinv.out.2.1
        have hs3 := hO.sl (NatIn.elem .u32)
        have hlc := hO.lenCap
        go_wp2_with fail
        refine (rtrim_any X _ _ _ _ hs3 hod (by omega) hlc).mono ?_
        rintro e w' ⟨rfl, l', rfl, hl', hc, hs'⟩
        go_wp2_with fail
        go_ret2
        rw [hdn.out, hsum.out] at hc
        exact ⟨hE13.trans hE, _, by rw [hd.out]; rfl, oo, cp, l', rfl, by omega, hc, hs'⟩

theorem rntimes (X : Nat → Bool) (w : World) (u : Value) (n v by_ : Nat) (hX : HX X w) (hu : NC (mk X w) u n) (hn : lg n ≤ 549755813888) (hb : by_ ≤ 549755813888) (hv : v < 4294967296) : Calls Tryz.prog 208 #[u, .int .u32 v, .int .i64 by_] w (ROut X w NC (n * v * B ^ by_)) := by
  obtain ⟨ao, ca, a, rfl, hca, hcan, hsa⟩ := hu
  have hal : a.length ≤ 549755813888 := by rw [hcan.len]; exact hn
  have hda := hcan.1
  have hnv := hid hcan.2.2
  clear hcan hn
  go_enter Tryz.func208, Tryz.ntmps208
  go_wp2_with (at_make; refine st_make slU32 (NatIn.elem .u32) 0 (fun _ => rfl) X hX w.heap.size (Nat.le_refl _) by_ rfl rfl (by omega) (by omega) (by omega) ?_; intro oo w1 hO hE1)
  go_loopw [7, 8, 9] (fun v_ c i wr => ∃ (k : Nat) (o : List Nat) (cy : Nat) (oo : Option Addr) (cp : Nat), i = .int .i64 k ∧ c = .int .u64 cy ∧ v_ = .slice oo o.length cp ∧ k ≤ a.length + 1 ∧ cy < 4294967296 ∧ Hid (TimInv a v by_ o k cy) ∧ o.length ≤ by_ + k ∧ OL (NatIn .u32) 1 X w.heap.size 123 wr oo cp o ∧ Ext w wr) (fun _ _ i _ => a.length + 1 - (intOf i).toNat)
  case atStart => exact ⟨0, _, 0, oo, by_, rfl, rfl, by simp, by omega, by omega, hid (TimInv.start a v by_), by simp, hO, hE1⟩
  case round =>
    clear hO hE1
    obtain ⟨k, o, cy, oo2, cp, rfl, rfl, rfl, hk, hcy, hinv, hol, hO, hE⟩ := hrel
    have hXr : ∀ k, X k = true → k < wr.heap.size := fun k hk => Nat.lt_of_lt_of_le (hX k hk) hE.size
    have hbase : w.heap.size ≤ wr.heap.size := hE.size
    by_cases hlt : k ≤ a.length
    · have hsa2 := hsa.mono (NatIn.mono _) (mk_ext hE)
      have hx := hda.getD k
      rw [B_eq] at hx
      obtain ⟨x, hxe⟩ : ∃ x, a.getD k 0 = x := ⟨_, rfl⟩
      rw [hxe] at hx
      obtain ⟨hst0, hlt0⟩ := hinv.out.step hxe hda hv
      have hxe' := hid hxe
      obtain ⟨t, ht⟩ : ∃ t, x * v + cy = t := ⟨_, rfl⟩
      rw [ht] at hst0 hlt0
      have hst := hid hst0
      have hw1 : IntKind.u64.wrap ((x : Int) * (v : Int)) = (x : Int) * (v : Int) := IntWalk.u64_in _ (by rw [← Int.natCast_mul]; omega)
      have hw2 : IntKind.u64.wrap ((x : Int) * (v : Int) + (cy : Int)) = (t : Int) := by
        rw [← ht, Int.natCast_add, Int.natCast_mul]; exact IntWalk.u64_in _ (by rw [← Int.natCast_mul]; omega)
      have hcy2 : t / 4294967296 < 4294967296 := by omega
      have hltI : decide ((k : Int) ≤ (a.length : Int)) = true := decide_eq_true (by omega)
      clear hxe hinv hst0 ht hlt0
      go_wp2_with fail
      refine (rlimb_any X ao a ca k _ hsa2 hda (by omega) x hxe'.out).mono ?_
      rintro e w' ⟨rfl, rfl⟩
      go_wp2_with (at_builtin; refine st_append1 slU32 rfl (NatIn.elem .u32) hbase hXr rfl rfl hO (.int .u32 ((t % 4294967296 : Nat) : Int)) (t % 4294967296) (by simp [Value.cells]) rfl (by omega) (by omega) ?_; intro ao2 cap2 w5 hO2 hE2 _)
      go_roundw
      case rel => exact ⟨k + 1, _, t / 4294967296, ao2, cap2, by go_num, by rw [Int.natCast_ediv]; rfl, by simp, by omega, hcy2, hst, by simp; omega, hO2, hE.own hO (Nat.le_refl _) hE2⟩
      case measure => simp [intOf]; omega
    · have hke : k = a.length + 1 := by omega
      subst hke
      have hdn0 := hinv.out.done hda hv
      have hdn := hid hdn0.2
      have hod := hdn0.1
      have hs3 := hO.sl (NatIn.elem .u32)
      have hlc := hO.lenCap
      have hltI : decide (((a.length + 1 : Nat) : Int) ≤ (a.length : Int)) = false := decide_eq_false (by omega)
      clear hdn0 hinv
      go_wp2_with fail
      refine (rtrim_any X _ _ _ _ hs3 hod (by omega) hlc).mono ?_
      rintro e w' ⟨rfl, l', rfl, hl', hc, hs'⟩
      go_wp2_with fail
      go_ret
      rw [hdn.out, hnv.out] at hc
      exact ⟨hE, _, rfl, oo2, cp, l', rfl, by omega, hc, hs'⟩

theorem rnmul (X : Nat → Bool) (w : World) (u v : Value) (na nb : Nat) (hX : HX X w) (hu : NV (mk X w) u na) (hv : NV (mk X w) v nb) (h1 : lg na ≤ 274877906944) (h2 : lg nb ≤ 274877906944) : Calls Tryz.prog 170 #[u, v] w (ROut X w NC (na * nb)) := by
  go_enter Tryz.func170, Tryz.ntmps170
  go_wp2_with fail
  refine (rntake hX hu).mono ?_
  rintro e w1 ⟨hE1, u1, rfl, hu1⟩
  go_wp2_with fail
  refine (rntake (hX.ext hE1) (mkx NV.mono hv hE1)).mono ?_
  rintro e w2 ⟨hE2, v1, rfl, hv1⟩
  have hu2 := mkx NC.mono hu1 hE2
  obtain ⟨bo, cb, b, rfl, hcb, hcbn, hsb⟩ := hv1
  have hX2 := hX.ext (hE1.trans hE2)
  have hbl : b.length ≤ 274877906944 := by rw [hcbn.len]; exact h2
  have hE12 := hE1.trans hE2
  have hdb := hcbn.1
  have hnb := hid hcbn.2.2
  have hhb := hsb.hd
  have h1' := hid h1
  clear hu hv hu1 hE1 hE2 hX h2 hcbn h1
  go_wp2_with fail
  go_loopw [5, 6] (fun o i wr => ∃ (k : Nat), i = .int .i64 k ∧ k ≤ b.length ∧ NC (mk X wr) o (na * nv (b.take k)) ∧ Ext w2 wr) (fun _ i _ => b.length - (intOf i).toNat)
  case atStart => exact ⟨0, rfl, by omega, by simpa [nv] using NC.zero _, ExtX.refl _⟩
  case round =>
    obtain ⟨k, rfl, hk, ho, hE⟩ := hrel
    have hX3 := hX2.ext hE
    by_cases hlt : k < b.length
    · have hcell := (hsb.mono (NatIn.mono _) (mk_ext hE)).nat k hlt
      have hx := hdb.get k hlt
      obtain ⟨x, hxe⟩ : ∃ x, b[k] = x := ⟨_, rfl⟩
      have hst : Hid (na * nv (b.take k) + na * x * B ^ k = na * nv (b.take (k + 1))) := hid (by rw [nv_take_succ b k hlt, hxe, Nat.mul_add, Nat.mul_assoc na x, Nat.mul_comm x])
      rw [hxe] at hcell hx
      rw [B_eq] at hx
      have hsz : Hid (lg (na * nv (b.take k)) ≤ 1099511627776) := hid (by
        have e1 := lg_mul na (nv (b.take k))
        have e2 : lg (nv (b.take k)) ≤ k := lg_le.2 (nv_take_lt hdb k)
        have := h1'.out
        omega)
      have hsz2 : Hid (lg (na * x * B ^ k) ≤ 1099511627776) := hid (by
        have e1 : na * x * B ^ k < B ^ (lg na + 1 + k) := by
          rw [Nat.pow_add, Nat.pow_succ]
          refine Nat.mul_lt_mul_of_pos_right ?_ (Nat.pow_pos B_pos)
          refine Nat.lt_of_le_of_lt (Nat.mul_le_mul_left _ (show x ≤ B by rw [B_eq]; omega)) (Nat.mul_lt_mul_of_pos_right (lg_le.1 (Nat.le_refl _)) B_pos)
        have e2 := lg_le.2 e1
        have := h1'.out
        omega)
      clear hxe
      go_wp2_with (with_reducible refine up_ix1 slU32 (by omega) (by assumption) ?_)
      refine (rntimes X wr u1 na x k hX3 (mkx NC.mono hu2 hE) (by have := h1'.out; omega) (by omega) hx).mono ?_
      rintro e w4 ⟨hE4, t, rfl, ht⟩
      go_wp2_with fail
      refine (rnadd (hX3.ext hE4) (mkx NV.mono (ho.nv hsz.out) hE4) (ht.nv hsz2.out)).mono ?_
      rintro e w5 ⟨hE5, t2, rfl, ht2⟩
      rw [hst.out] at ht2
      go_wp2_with fail
      go_roundw
      case rel => exact ⟨k + 1, by go_num, by omega, ht2, hE.trans (hE4.trans hE5)⟩
      case measure => simp [intOf]; omega
    · have hke : k = b.length := by omega
      have hfin : na * nv (b.take k) = na * nb := by rw [hke, List.take_length, hnb.out]
      rw [hfin] at ho
      clear hfin hke
      go_wp2_with fail
      go_ret
      exact ⟨hE12.trans hE, _, rfl, ho⟩
end Go.Proofs.YtjbhcniiioepgaaGreat
