/- Parts of a proof: each theorem states what it proves, and its conditions. -/
import Derived.Test.YtgimdkjgaemcbaaGreatIgC
import Derived.Laws.CopyRow
import Derived.Deep.RegionHeld3
import Derived.Deep.RegionWith
namespace Go.Rep
open Go.RowKit Go.Lim
theorem NC.lit {X : Nat -> Bool} {w : World} (hX : HX X w) (x : Nat) (t : TypeId) (h0 : 0 < x) (h1 : x < 4294967296) : NC (mk X (w.alloc (.cells #[.int .u32 (x : Int)] t))) (.slice (some ⟨w.heap.size, 0, none⟩) 1 1) x := by
  have hO : OL (NatIn .u32) 1 X w.heap.size t (w.alloc (.cells #[.int .u32 (x : Int)] t)) (some ⟨w.heap.size, 0, none⟩) 1 [x] :=
    OL.lit (NatIn.elem .u32) hX (Nat.le_refl _) [.int .u32 (x : Int)] [x] _ (by simp [cellsL, Value.cells]) rfl (fun i hi hi' => by
      have : i = 0 := by simp at hi; omega
      subst this; rfl) (by simp)
  exact ⟨_, 1, [x], rfl, Nat.le_refl _, canon_of h0 h1, hO.sl (NatIn.elem _)⟩
end Go.Rep
namespace Go.Proofs.YtgimdkjgaemcbaaGreat
open Go.RowKit Go.Rep Go.Lim
theorem rbit (X : Nat -> Bool) (w : World) (u : Value) (n i : Nat) (hu : NC (mk X w) u n) (hi : i < 32 * lg n) (hn : lg n <= 1099511627776) : Calls Tryz.prog 255 #[u, .int .i64 i] w fun e w' => w = w' /\ e = .returned (.int .u32 (n / 2 ^ i % 2 : Nat)) := by
  obtain ⟨ao, ca, a, rfl, hca, hcan, hsa⟩ := hu
  have hk : i / 32 < a.length := by rw [hcan.len]; omega
  have hal : a.length <= 1099511627776 := by rw [hcan.len]; exact hn
  have hcell := hsa.nat (i / 32) hk
  have hb := bit_at hcan i
  rw [getD_of_lt hk] at hb
  have hx := hcan.1.get (i / 32) hk
  obtain ⟨x, hxe⟩ : ∃ x, a[i / 32] = x := ⟨_, rfl⟩
  rw [hxe] at hcell hb hx
  rw [B_eq] at hx
  have hh := hsa.hd
  have hb' := hid hb
  have hxl : Hid (x < 4294967296) := hid hx
  have hiI : (i : Int) <= 35184372088832 := by omega
  have e1 : (i : Int) / 32 = ((i / 32 : Nat) : Int) := by omega
  have e2 : (i : Int) % 32 = ((i % 32 : Nat) : Int) := by omega
  have e3 : Hid (i % 32 < 32) := hid (Nat.mod_lt _ (by decide))
  obtain ⟨p, hp⟩ : ∃ p, i / 32 = p := ⟨_, rfl⟩
  obtain ⟨q, hq⟩ : ∃ q, i % 32 = q := ⟨_, rfl⟩
  rw [hp] at e1 hk hcell
  rw [hq] at e2 e3
  have hq32 : q < 32 := e3.out
  have hbb : Hid (x / 2 ^ q % 2 = n / 2 ^ i % 2) := hid (by rw [<- hq]; exact hb)
  clear hxe hb hp hq hb' e3 hcan hx hsa
  go_enter Tryz.func255, Tryz.ntmps255
  go_wp2_with (with_reducible refine up_ix1 slU32 (by omega) (by assumption) ?_)
  go_ret
  have hdl : x / 2 ^ q < 4294967296 := Nat.lt_of_le_of_lt (Nat.div_le_self _ _) hxl.out
  have hv := bits_and_u32_nat (x / 2 ^ q) 1 hdl (by omega)
  rw [Nat.and_one_is_mod, hbb.out] at hv
  exact ⟨rfl, ret_int (by simpa using hv)⟩
theorem rdouble (X : Nat -> Bool) (w : World) (u : Value) (n t : Nat) (hX : HX X w) (hu : NC (mk X w) u n) (hn : lg n <= 549755813887) (ht : t <= 1) : Calls Tryz.prog 254 #[u, .int .u32 t] w (ROut X w NC (2 * n + t)) := by
  have hsz : Hid (lg (n * 2 * B ^ 0) <= 1099511627776) := hid (by
    have e1 := lg_mul n 2
    have e2 : lg 2 = 1 := lg_one_iff (by omega) (by omega)
    rw [Nat.pow_zero, Nat.mul_one]; omega)
  have hs1 : Hid (lg 1 <= 1099511627776) := hid (by rw [lg_one]; decide)
  have hst : Hid (n * 2 * B ^ 0 = 2 * n) := hid (by rw [Nat.pow_zero, Nat.mul_one, Nat.mul_comm])
  go_enter Tryz.func254, Tryz.ntmps254
  go_wp2_with fail
  refine (rntimes X w u n 2 0 hX hu (by omega) (by omega) (by omega)).mono ?_
  rintro e w1 ⟨hE1, u1, rfl, hu1⟩
  have hX1 := hX.ext hE1
  rcases (by omega : t = 0 \/ t = 1) with rfl | rfl
  · rw [hst.out] at hu1
    go_wp2_with fail
    go_ret
    exact ⟨hE1, _, rfl, hu1⟩
  · go_wp2_with fail
    have hl := NC.lit hX1 1 144 (by omega) (by omega)
    have hE2 := hE1.alloc (.cells #[.int .u32 ((1 : Nat) : Int)] 144)
    have hE3 : Ext w1 (w1.alloc (.cells #[.int .u32 ((1 : Nat) : Int)] 144)) := (ExtX.refl w1).alloc _
    refine (rnadd (hX1.ext hE3) (mkx NV.mono (hu1.nv hsz.out) hE3) (hl.nv hs1.out)).mono ?_
    rintro e w5 ⟨hE5, t2, rfl, ht2⟩
    rw [hst.out] at ht2
    go_wp2_with fail
    go_ret
    exact ⟨hE2.trans hE5, _, rfl, ht2⟩
theorem rndiv (X : Nat -> Bool) (w : World) (u v : Value) (na nb : Nat) (hX : HX X w) (hu : NV (mk X w) u na) (hv : NV (mk X w) v nb) (h1 : lg na <= 274877906944) (h2 : lg nb <= 274877906944) (h0 : 0 < nb) : Calls Tryz.prog 206 #[u, v] w (DOut X w (na / nb) (na % nb)) := by
  go_enter Tryz.func206, Tryz.ntmps206
  go_wp2_with fail
  refine (rntake hX hu).mono ?_
  rintro e w1 ⟨hE1, u1, rfl, hu1⟩
  go_wp2_with fail
  refine (rntake (hX.ext hE1) (mkx NV.mono hv hE1)).mono ?_
  rintro e w2 ⟨hE2, v1, rfl, hv1⟩
  have hu2 := mkx NC.mono hu1 hE2
  obtain ⟨ao, ca, a, rfl, hca, hcan, hsa⟩ := id hu2
  obtain ⟨bo, cb, b, rfl, hcb, hcbn, hsb⟩ := id hv1
  have hX2 := hX.ext (hE1.trans hE2)
  have hal : a.length <= 274877906944 := by rw [hcan.len]; exact h1
  have hall := hid hcan.len
  have hE12 := hE1.trans hE2
  have hbl : ¬ b.length = 0 := by have := canon_len0 hcbn; omega
  have hbI : (0 : Int) < (b.length : Int) := by omega
  have hbz : ((b.length : Int) == 0) = false := beqF (by omega)
  have hst : Hid (BitInv na nb 0 0 (32 * a.length)) := hid (BitInv.start (by rw [<- B_two, hcan.len]; exact lg_le.1 (Nat.le_refl _)))
  have h1' := hid h1
  have h2' := hid h2
  have h0' := hid h0
  clear hu hv hu1 hE1 hE2 hX h1 h2 h0 hcan hcbn hsa hsb hbl hca hcb
  go_wp2_with fail
  go_loopw [7, 8, 9] (fun q r i wr => ∃ (k Q R : Nat) (x : Int), i = .int .i64 x /\ x = (k : Int) - 1 /\ k <= 32 * a.length /\ Hid (BitInv na nb Q R k) /\ NC (mk X wr) q Q /\ NC (mk X wr) r R /\ Ext w2 wr) (fun _ _ i _ => (intOf i + 1).toNat)
  case atStart => exact ⟨32 * a.length, 0, 0, _, rfl, by omega, by omega, hst, NC.zero _, NC.zero _, ExtX.refl _⟩
  case round =>
    obtain ⟨k, Q, R, x, rfl, hx, hk, hinv, hq, hr, hE⟩ := hrel
    have hX3 := hX2.ext hE
    cases k with
    | zero =>
      obtain rfl : x = -1 := by omega
      obtain ⟨rfl, rfl⟩ := hinv.out.done
      clear hinv hx hst
      go_wp2_with fail
      go_ret3
      exact ⟨hE12.trans hE, _, _, rfl, hq, hr⟩
    | succ i =>
      obtain rfl : x = (i : Int) := by omega
      have hi : i < 32 * lg na := by rw [<- hall.out]; omega
      obtain ⟨t, ht⟩ : ∃ t, na / 2 ^ i % 2 = t := ⟨_, rfl⟩
      have ht1 : t <= 1 := by omega
      obtain ⟨hR, hs1, hs2⟩ := hinv.out.step h0'.out ht
      have hQb : Hid (lg Q <= 274877906944) := hid (by
        have e1 : Q <= na := by rw [hinv.out.1]; exact Nat.le_trans (Nat.div_le_self _ _) (Nat.div_le_self _ _)
        exact Nat.le_trans (lg_mono e1) h1'.out)
      have hRb : Hid (lg R <= 274877906944) := hid (Nat.le_trans (lg_mono (Nat.le_of_lt hR)) h2'.out)
      have hRb2 : Hid (lg (2 * R + t) <= 1099511627776) := hid (by
        have e1 := lg_add (2 * R) t
        have e2 := lg_mul 2 R
        have e3 : lg 2 = 1 := lg_one_iff (by omega) (by omega)
        have e4 : lg t <= 1 := by have := lg_mono ht1; rw [lg_one] at this; exact this
        have := hRb.out
        omega)
      have hs1' := hid hs1
      have hs2' := hid hs2
      have hbit := rbit X wr _ na i (mkx NC.mono hu2 hE) hi (by have := h1'.out; omega)
      rw [ht] at hbit
      clear hinv hR hs1 hs2 hst ht hi hx
      go_wp2_with fail
      refine hbit.mono ?_
      rintro e w' ⟨rfl, rfl⟩
      go_wp2_with fail
      refine (rdouble X wr _ R t hX3 hr (by have := hRb.out; omega) ht1).mono ?_
      rintro e w4 ⟨hE4, r1, rfl, hr1⟩
      have hX4 := hX3.ext hE4
      have hq4 := mkx NC.mono hq hE4
      have hb4 := (mkx NC.mono hv1 (hE.trans hE4)).nv (by have := h2'.out; omega)
      clear hbit
      go_wp2_with fail
      refine (rnsub X w4 r1 _ (2 * R + t) nb hX4 (hr1.nv hRb2.out) hb4).mono ?_
      rintro e w5 ⟨hE5, d, rfl, hd⟩
      have hX5 := hX4.ext hE5
      have hq5 := mkx NC.mono hq4 hE5
      by_cases hge : nb <= 2 * R + t
      · have hi2 := hid (hs2'.out hge)
        have hdt : decide (nb <= 2 * R + t) = true := decide_eq_true hge
        rw [hdt]
        clear hge hdt
        go_wp2_with fail
        refine (rdouble X w5 _ Q 1 hX5 hq5 (by have := hQb.out; omega) (by omega)).mono ?_
        rintro e w6 ⟨hE6, q1, rfl, hq1⟩
        go_wp2_with fail
        go_roundw
        case rel => exact ⟨i, _, _, _, rfl, rfl, by omega, hi2, hq1, mkx NC.mono hd hE6, hE.trans (hE4.trans (hE5.trans hE6))⟩
        case measure => simp [intOf]
      · have hi2 := hid (hs1'.out (by omega))
        have hdt : decide (nb <= 2 * R + t) = false := decide_eq_false hge
        rw [hdt]
        clear hge hdt
        go_wp2_with fail
        refine (rdouble X w5 _ Q 0 hX5 hq5 (by have := hQb.out; omega) (by omega)).mono ?_
        rintro e w6 ⟨hE6, q1, rfl, hq1⟩
        go_wp2_with fail
        go_roundw
        case rel => exact ⟨i, _, _, _, rfl, rfl, by omega, hi2, hq1, mkx NC.mono hr1 (hE5.trans hE6), hE.trans (hE4.trans (hE5.trans hE6))⟩
        case measure => simp [intOf]
theorem rngcd (X : Nat -> Bool) (w : World) (u v : Value) (na nb : Nat) (hX : HX X w) (hu : NV (mk X w) u na) (hv : NV (mk X w) v nb) (h1 : lg na <= 274877906944) (h2 : lg nb <= 274877906944) : Calls Tryz.prog 205 #[u, v] w (ROut X w NC (Nat.gcd na nb)) := by
  go_enter Tryz.func205, Tryz.ntmps205
  go_wp2_with fail
  refine (rntake hX hu).mono ?_
  rintro e w1 ⟨hE1, u1, rfl, hu1⟩
  go_wp2_with fail
  refine (rntake (hX.ext hE1) (mkx NV.mono hv hE1)).mono ?_
  rintro e w2 ⟨hE2, v1, rfl, hv1⟩
  have hu2 := mkx NC.mono hu1 hE2
  have hX2 := hX.ext (hE1.trans hE2)
  have hE12 := hE1.trans hE2
  have h1' := hid h1
  have h2' := hid h2
  clear hu hv hu1 hE1 hE2 hX h1 h2
  go_wp2_with fail
  go_loopw [0, 1] (fun x y wr => ∃ (p q : Nat) (bo : Option Addr) (l cb : Nat), y = .slice bo l cb /\ NC (mk X wr) x p /\ NC (mk X wr) (.slice bo l cb) q /\ Hid (lg p <= 274877906944) /\ Hid (lg q <= 274877906944) /\ Hid (Nat.gcd p q = Nat.gcd na nb) /\ Ext w2 wr) (fun _ y W => nvAt W y)
  case atStart =>
    obtain ⟨bo, cb, b, rfl, _⟩ := id hv1
    exact ⟨na, nb, bo, _, cb, rfl, hu2, hv1, h1', h2', hid rfl, ExtX.refl _⟩
  case round =>
    obtain ⟨p, q, bo, l, cb, rfl, hx, hy, hp, hq, hg, hE⟩ := hrel
    have hX3 := hX2.ext hE
    obtain ⟨bo', cb', b, heq, hcb, hcn, hsb⟩ := id hy
    simp only [Value.slice.injEq] at heq
    obtain ⟨rfl, rfl, rfl⟩ := heq
    have hl0 := canon_len0 hcn
    have hm2 := nvAt_eq cb hsb
    rw [hcn.2.2] at hm2
    have hm2' := hid hm2
    clear hm2 hcn hsb hcb hu2 hv1
    by_cases hl : 0 < b.length
    · have hq0 : 0 < q := by omega
      have hlI : (0 : Int) < (b.length : Int) := by omega
      have hst : Hid (Nat.gcd q (p % q) = Nat.gcd na nb) := hid (by rw [Nat.gcd_comm, <- Nat.gcd_rec, Nat.gcd_comm]; exact hg.out)
      have hlt := hid (Nat.mod_lt p hq0)
      have hq0' := hid hq0
      have hr : Hid (lg (p % q) <= 274877906944) := hid (Nat.le_trans (lg_mono (Nat.le_of_lt hlt.out)) hq.out)
      clear hl0 hq0
      go_wp2_with fail
      refine (rndiv X wr _ _ p q hX3 (hx.nv (by have := hp.out; omega)) (hy.nv (by have := hq.out; omega)) hp.out hq.out hq0'.out).mono ?_
      rintro e w4 ⟨hE4, d, r, rfl, hd, hr4⟩
      obtain ⟨ro, cr, rl, rfl, hr5⟩ := id hr4
      have hm1 := nvAt_eq cr hr5.2.2
      rw [hr5.2.1.2.2] at hm1
      have hm1' := hid hm1
      clear hm1 hr5
      go_wp2_with fail
      go_roundw
      case rel => exact ⟨q, p % q, ro, _, cr, rfl, mkx NC.mono hy hE4, hr4, hq, hr, hst, hE.trans hE4⟩
      case measure => rw [hm1'.out, hm2'.out]; exact hlt.out
    · have hq0 : q = 0 := by omega
      have hfin := hg.out
      rw [hq0, Nat.gcd_zero_right] at hfin
      have hlI : ((b.length : Int)) = 0 := by omega
      rw [hfin] at hx
      clear hfin hq0 hl0 hg hp hm2'
      go_wp2_with fail
      go_ret
      exact ⟨hE12.trans hE, _, rfl, hx⟩
theorem nlist_eq {α : Type} {a b : List α} (h : a.length = b.length) (hp : ∀ i, (h1 : i < a.length) -> (h2 : i < b.length) -> a[i] = b[i]) : a = b := List.ext_getElem h hp
theorem nupto_succ {a b : List Nat} {i : Nat} (h : ∀ p, p < i -> ∀ (hp : p < a.length) (hq : p < b.length), a[p] = b[p]) (hn : ∀ (hp : i < a.length) (hq : i < b.length), a[i] = b[i]) : Hid (∀ p, p < i + 1 -> ∀ (hp : p < a.length) (hq : p < b.length), a[p] = b[p]) := hid fun p hp h1 h2 => by
  by_cases hpi : p = i
  · subst hpi; exact hn h1 h2
  · exact h p (by omega) h1 h2
theorem ndrewQ {w wr : World} (h : Hid (∃ m, wr = w.drewN m)) (n : Nat) : ∃ m, wr.drewN n = w.drewN m := by
  obtain ⟨m, rfl⟩ := h
  exact ⟨_, World.drewN_drewN _ _ _⟩
theorem rnsame (X : Nat -> Bool) (w : World) (u v : Value) (na nb : Nat) (hu : NC (mk X w) u na) (hv : NC (mk X w) v nb) (hn : lg na <= 1099511627776) : Calls Tryz.prog 79 #[u, v] w fun e w' => e = .returned (.bool (decide (na = nb))) /\ ∃ m, w' = w.drewN m := by
  obtain ⟨ao, ca, a, rfl, hca, hcan, hsa⟩ := hu
  obtain ⟨bo, cb, b, rfl, hcb, hcbn, hsb⟩ := hv
  have hla : a.length <= 1099511627776 := by rw [hcan.len]; exact hn
  have hha := hsa.hd
  have hhb := hsb.hd
  have hab : Hid (decide (na = nb) = (a == b)) := hid (by
    rw [Bool.eq_iff_iff]
    simp only [decide_eq_true_eq, beq_iff_eq]
    constructor
    · intro h; subst h; exact hcan.unique hcbn
    · intro h; subst h; exact hcan.2.2.symm.trans hcbn.2.2)
  clear hn hca hcb hcan hcbn
  by_cases hlen : a.length = b.length
  · have hbl : b.length <= a.length := by omega
    have hal : a.length <= b.length := by omega
    have hne : ((a.length : Int) != b.length) = false := bneF (by omega)
    have hlen' := hid hlen
    clear hlen
    go_enter Tryz.func79, Tryz.ntmps79
    go_wp2_with fail
    go_loopw [5] (fun c wr => ∃ i : Nat, c = .int .i64 i /\ i <= a.length /\ Hid (∀ p, p < i -> ∀ (hp : p < a.length) (hq : p < b.length), a[p] = b[p]) /\ ∃ m, wr = w.drewN m) (fun c _ => a.length - (intOf c).toNat)
    case atStart => exact ⟨0, rfl, Nat.zero_le _, hid fun p hp => by omega, 0, rfl⟩
    case round =>
      obtain ⟨i, rfl, hi, hok, hDr⟩ := hrel
      have hDq : Hid (∃ m, wr = w.drewN m) := hid hDr
      have hE : Ext w wr := by
        obtain ⟨m, hm⟩ := hDr
        rw [hm]; exact (ExtX.refl w).drewN m
      clear hDr
      by_cases hlt : i < a.length
      · have hlt2 : i < b.length := by omega
        have c1 := (hsa.mono (NatIn.mono _) (mk_ext hE)).nat i hlt
        have c2 := (hsb.mono (NatIn.mono _) (mk_ext hE)).nat i hlt2
        have i1 : ∀ W, (Instr.indexAt 34 (.slice ao a.length ca) (.int .i64 (i : Int))).run Tryz.prog W = .ok (.pointer (some (adr ao i))) W := run_ix1 slU32 ao a.length ca .i64 i hha (by omega) rfl
        have i2 : ∀ W, (Instr.indexAt 34 (.slice bo b.length cb) (.int .i64 (i : Int))).run Tryz.prog W = .ok (.pointer (some (adr bo i))) W := run_ix1 slU32 bo b.length cb .i64 i hhb (by omega) rfl
        obtain ⟨x, hx⟩ : ∃ x, a[i] = x := ⟨_, rfl⟩
        obtain ⟨y, hy⟩ : ∃ y, b[i] = y := ⟨_, rfl⟩
        rw [hx] at c1
        rw [hy] at c2
        have hx' := hid hx
        have hy' := hid hy
        clear hx hy
        by_cases hxy : x = y
        · have hn : Hid (∀ (hp : i < a.length) (hq : i < b.length), a[i] = b[i]) := hid fun _ _ => by rw [hx'.out, hy'.out, hxy]
          have hb : ((x : Int) != y) = false := bneF (by omega)
          clear hxy
          go_wp2_with fail
          go_quiet (fail)
          go_wp2_with fail
          go_roundw
          case rel => exact ⟨i + 1, by go_num, by omega, nupto_succ hok.out hn.out, ndrewQ hDq _⟩
          case measure => simp [intOf]; omega
        · have hv : Hid ((a == b) = false) := hid (by
            cases h : a == b
            · rfl
            · have := eq_of_beq h; subst this; exact absurd (hx'.out.symm.trans hy'.out) hxy)
          have hb : ((x : Int) != y) = true := bneT (by omega)
          clear hxy
          go_wp2_with fail
          go_quiet (fail)
          go_wp2_with fail
          go_ret
          exact ⟨ret_bool (hv.out.symm.trans hab.out.symm), ndrewQ hDq _⟩
      · have hv : Hid ((a == b) = true) := hid (by rw [nlist_eq hlen'.out fun p hp hq => hok.out p (by omega) hp hq]; simp)
        go_wp2_with fail
        go_ret
        exact ⟨ret_bool (hv.out.symm.trans hab.out.symm), hDq.out⟩
  · have hne : ((a.length : Int) != b.length) = true := bneT (by omega)
    have hv : Hid ((a == b) = false) := hid (by
      cases h : a == b
      · rfl
      · have := eq_of_beq h; subst this; exact absurd rfl hlen)
    clear hlen
    go_enter Tryz.func79, Tryz.ntmps79
    go_wp2_with fail
    go_ret
    exact ⟨ret_bool (hv.out.symm.trans hab.out.symm), 0, rfl⟩
end Go.Proofs.YtgimdkjgaemcbaaGreat
namespace Go.Rep
open Go.RowKit
def Bx (w : World) (b : Nat) (cs : Array Value) (T : TypeId) : Prop := w.heap[b]? = some (.cells cs T (0, 0))
theorem Bx.lt {w : World} {b : Nat} {cs : Array Value} {T : TypeId} (h : Bx w b cs T) : b < w.heap.size := (Array.getElem?_eq_some_iff.1 h).1
theorem Bx.cell {w : World} {b : Nat} {cs : Array Value} {T : TypeId} (h : Bx w b cs T) (i : Nat) {u : Value} (hu : cs[i]? = some u) : w.cell? ⟨b, i, none⟩ = some u := by
  unfold Bx at h; unfold World.cell?; rw [h]; simpa using hu
theorem Bx.frozen {w : World} {b : Nat} {cs : Array Value} {T : TypeId} (h : Bx w b cs T) (i : Nat) : w.frozen? ⟨b, i, none⟩ = false := by
  unfold Bx at h; unfold World.frozen?; rw [h]; simp
theorem Bx.ext {Y : Nat -> Bool} {w w' : World} {b : Nat} {cs : Array Value} {T : TypeId} (h : Bx w b cs T) (hE : ExtX Y w w') (hY : Y b = false) : Bx w' b cs T := by
  unfold Bx; rw [hE.block b h.lt hY]; exact h
theorem Bx.ext0 {w w' : World} {b : Nat} {cs : Array Value} {T : TypeId} (h : Bx w b cs T) (hE : Ext w w') : Bx w' b cs T := h.ext hE rfl
theorem Bx.new (w : World) (cs : Array Value) (T : TypeId) : Bx (w.alloc (.cells cs T)) w.heap.size cs T := heap_alloc_new w _
theorem ob_self (g : Nat) : ob (some ⟨g, 0, none⟩) g = true := by simp [ob]
theorem ob_other {g k : Nat} (h : k ≠ g) : ob (some ⟨g, 0, none⟩) k = false := by
  cases hh : ob (some ⟨g, 0, none⟩) k
  · rfl
  · have e : g = k := by simpa [ob] using hh
    exact absurd e.symm h
theorem setCell_block {w : World} {b i : Nat} {cs : Array Value} {T : TypeId} (h : Bx w b cs T) (v : Value) (hi : i < cs.size) : Bx (w.setCell ⟨b, i, none⟩ v) b (cs.set i v) T /\ ExtX (ob (some ⟨b, 0, none⟩)) w (w.setCell ⟨b, i, none⟩ v) := by
  unfold Bx at *
  have hb : b < w.heap.size := (Array.getElem?_eq_some_iff.1 h).1
  refine ⟨?_, ⟨rfl, rfl, rfl, ?_, ?_⟩⟩
  · simp only [World.setCell, Array.getElem?_modify, if_true, h, Option.map_some]
    simp [hi, Array.setIfInBounds]
  · simp [World.setCell]
  · intro k _ hk
    have hkb : b ≠ k := fun e => by subst e; rw [ob_self] at hk; simp at hk
    simp only [World.setCell, Array.getElem?_modify, if_neg hkb]
theorem Bx.set2 {w : World} {b : Nat} {x0 x1 : Value} {T : TypeId} (h : Bx w b #[x0, x1] T) (v0 v1 : Value) : Bx ((w.setCell ⟨b, 0, none⟩ v0).setCell ⟨b, 1, none⟩ v1) b #[v0, v1] T /\ ExtX (ob (some ⟨b, 0, none⟩)) w ((w.setCell ⟨b, 0, none⟩ v0).setCell ⟨b, 1, none⟩ v1) := by
  obtain ⟨h1, h2⟩ := setCell_block h v0 (i := 0) (by simp)
  obtain ⟨h3, h4⟩ := setCell_block h1 v1 (i := 1) (by simp)
  exact ⟨by simpa using h3, h2.trans h4⟩
theorem Bx.set3 {w : World} {b : Nat} {x0 x1 x2 : Value} {T : TypeId} (h : Bx w b #[x0, x1, x2] T) (v0 v1 v2 : Value) : Bx (((w.setCell ⟨b, 0, none⟩ v0).setCell ⟨b, 1, none⟩ v1).setCell ⟨b, 2, none⟩ v2) b #[v0, v1, v2] T /\ ExtX (ob (some ⟨b, 0, none⟩)) w (((w.setCell ⟨b, 0, none⟩ v0).setCell ⟨b, 1, none⟩ v1).setCell ⟨b, 2, none⟩ v2) := by
  obtain ⟨h1, h2⟩ := setCell_block h v0 (i := 0) (by simp)
  obtain ⟨h3, h4⟩ := setCell_block h1 v1 (i := 1) (by simp)
  obtain ⟨h5, h6⟩ := setCell_block h3 v2 (i := 2) (by simp)
  exact ⟨by simpa using h5, (h2.trans h4).trans h6⟩
section
variable {P : Program} {ops : Array Oper} {Q : Exit -> Act -> World -> Prop} {rest : List Oper} {a : Act} {w : World}
variable {d : Option Tmp} {ty : TypeId} {ps : String} {af : Array Edge}
theorem run_storeBox {t : TypeId} {n b : Nat} {cs vs : Array Value} {T : TypeId} (hT : StructT P t n) (hb : Bx w b cs T) (hcs : cs.size = n) (hvs : vs.size = n) (hone : ∀ v ∈ vs.toList, v.oneCell' = true) :
    ∃ w', (storeVar t ⟨b, 0, none⟩ (.agg vs)).run P w = .ok () w' /\ Bx w' b vs T /\ ExtX (ob (some ⟨b, 0, none⟩)) w w' := by
  obtain ⟨fs, ti, h1, h2, h3⟩ := hT
  have hst := run_storeCells_at P b 0 T vs.toList 0 cs w hb (by simp [hcs, hvs]) hone
  refine ⟨w.setRow b (cs.toList.take (0 + 0) ++ vs.toList ++ cs.toList.drop (0 + 0 + vs.toList.length)).toArray, ?_, ?_, ?_⟩
  rotate_left
  · unfold Bx
    have := setRow_heap w b cs (cs.toList.take (0 + 0) ++ vs.toList ++ cs.toList.drop (0 + 0 + vs.toList.length)).toArray T (0, 0) hb
    rw [this]
    congr 2
    have e : cs.toList.drop (0 + 0 + vs.toList.length) = [] := List.drop_of_length_le (by simp [hvs, hcs])
    rw [e]; simp
  · exact ⟨rfl, rfl, rfl, by simp, fun k _ hk => setRow_other w b k _ (fun ek => by subst ek; simp [ob] at hk)⟩
  · simp [storeVar, sizeOf, typeInfo, h2, h3, Value.cells, hvs]
    simp only [Nat.zero_add, Array.length_toList, List.take_zero, List.nil_append, hvs] at hst |-
    exact hst
theorem st_storeBox {t : TypeId} {x y : Operand} {n b : Nat} {cs vs : Array Value} {T : TypeId} (hT : StructT P t n) (hx : a.eval x = .pointer (some ⟨b, 0, none⟩)) (hy : a.eval y = .agg vs) (hb : Bx w b cs T) (hcs : cs.size = n) (hvs : vs.size = n) (hone : ∀ v ∈ vs.toList, v.oneCell' = true)
    (K : ∀ w', Bx w' b vs T -> ExtX (ob (some ⟨b, 0, none⟩)) w w' -> wpList P ops Q rest (a.put d undef) w') :
    wpList P ops Q (⟨d, .store t x y, ty, ps, af, none⟩ :: rest) a w := by
  refine wpList_plain rfl fun K' hK' => ?_
  obtain ⟨w', hr, h1, h2⟩ := run_storeBox (P := P) hT hb hcs hvs hone
  unfold Oper.wp
  simp [execOp, hx, hy, Instr.storeAt, Instr.sureAddr, hr, Result.andThen]
  exact hK' _ _ (K w' h1 h2)
theorem run_loadBox {t : TypeId} {n b : Nat} {cs : Array Value} {T : TypeId} (hT : StructT P t n) (hb : Bx w b cs T) (hcs : cs.size = n) : (loadVar t ⟨b, 0, none⟩).run P w = .ok (.agg cs) w := by
  obtain ⟨fs, ti, h1, h2, h3⟩ := hT
  have hl := run_loadCells_list (P := P) w ⟨b, 0, none⟩ cs.toList (fun j v hj => by
    rw [Addr.add_lit, Nat.zero_add]
    exact hb.cell j (by simpa using hj))
  have hsz : cs.toList.length = n := by simpa using hcs
  rw [hsz] at hl
  simp [loadVar, isAgg, run_underlying h1, sizeOf, typeInfo, h2, h3, hl]
theorem st_loadBox {t : TypeId} {x : Operand} {n b : Nat} {cs : Array Value} {T : TypeId} (hT : StructT P t n) (hx : a.eval x = .pointer (some ⟨b, 0, none⟩)) (hb : Bx w b cs T) (hcs : cs.size = n)
    (K : wpList P ops Q rest (a.put d (.agg cs)) w) :
    wpList P ops Q (⟨d, .load t x, ty, ps, af, none⟩ :: rest) a w := by
  refine wpList_plain rfl fun K' hK' => ?_
  have hl := run_loadBox (P := P) hT hb hcs
  unfold Oper.wp
  simp [execOp, hx, Instr.loadAt, Instr.sureAddr, hl, Result.andThen]
  exact hK' _ _ K
theorem results_box {fn : Func} {tmps : Array Value} {c : Tmp} {t : TypeId} {n b : Nat} {cs : Array Value} {T : TypeId} (h : fn.results = #[.cell c t]) (hp : tmps.getD c undef = .pointer (some ⟨b, 0, none⟩)) (hT : StructT P t n) (hb : Bx w b cs T) (hcs : cs.size = n) :
    (results fn tmps).run P w = .ok (.agg cs) w := by
  have hl := run_loadBox (P := P) hT hb hcs
  rw [Array.getD_eq_getD_getElem?] at hp
  simp [results, h, hp, asAddr, hl]
theorem results_box2 {fn : Func} {tmps : Array Value} {c d : Tmp} {t : TypeId} {n b : Nat} {cs : Array Value} {T : TypeId} (h : fn.results = #[.cell c t, .tmp d]) (hp : tmps.getD c undef = .pointer (some ⟨b, 0, none⟩)) (hT : StructT P t n) (hb : Bx w b cs T) (hcs : cs.size = n) :
    (results fn tmps).run P w = .ok (.tuple #[.agg cs, tmps.getD d undef]) w := by
  have hl := run_loadBox (P := P) hT hb hcs
  rw [Array.getD_eq_getD_getElem?] at hp
  simp [results, h, hp, asAddr, hl]
end
theorem boxes1 (w : World) (x : Array Value) (T : TypeId) : ∃ W, w.alloc (.cells x T) = W /\ Ext w W /\ Bx W w.heap.size x T /\ W.heap.size = w.heap.size + 1 :=
  ⟨_, rfl, (ExtX.refl w).alloc _, Bx.new w _ _, by simp⟩
theorem boxes2 (w : World) (x y : Array Value) (T U : TypeId) : ∃ W, (w.alloc (.cells x T)).alloc (.cells y U) = W /\ Ext w W /\ Bx W w.heap.size x T /\ Bx W (w.heap.size + 1) y U /\ W.heap.size = w.heap.size + 2 := by
  obtain ⟨W, h1, h2, h3, h4⟩ := boxes1 w x T
  obtain ⟨V, k1, k2, k3, k4⟩ := boxes1 W y U
  exact ⟨V, by rw [h1, k1], h2.trans k2, h3.ext0 k2, by rw [<- h4]; exact k3, by omega⟩
theorem boxes3 (w : World) (x y z : Array Value) (T U S : TypeId) : ∃ W, ((w.alloc (.cells x T)).alloc (.cells y U)).alloc (.cells z S) = W /\ Ext w W /\ Bx W w.heap.size x T /\ Bx W (w.heap.size + 1) y U /\ Bx W (w.heap.size + 1 + 1) z S /\ W.heap.size = w.heap.size + 3 := by
  obtain ⟨W, h1, h2, h3, h5, h4⟩ := boxes2 w x y T U
  obtain ⟨V, k1, k2, k3, k4⟩ := boxes1 W z S
  exact ⟨V, by rw [h1, k1], h2.trans k2, h3.ext0 k2, h5.ext0 k2, by rw [<- h4]; exact k3, by omega⟩
theorem boxes4 (w : World) (x y z u : Array Value) (T U S R : TypeId) : ∃ W, (((w.alloc (.cells x T)).alloc (.cells y U)).alloc (.cells z S)).alloc (.cells u R) = W /\ Ext w W /\ Bx W w.heap.size x T /\ Bx W (w.heap.size + 1) y U /\ Bx W (w.heap.size + 1 + 1) z S /\ Bx W (w.heap.size + 1 + 1 + 1) u R /\ W.heap.size = w.heap.size + 4 := by
  obtain ⟨W, h1, h2, h3, h5, h6, h4⟩ := boxes3 w x y z T U S
  obtain ⟨V, k1, k2, k3, k4⟩ := boxes1 W u R
  exact ⟨V, by rw [h1, k1], h2.trans k2, h3.ext0 k2, h5.ext0 k2, h6.ext0 k2, by rw [<- h4]; exact k3, by omega⟩
end Go.Rep
namespace Go.Rep
open Go.RowKit Go.Lim
def ZV (h : Mem) (u : Value) (z : Int) : Prop := ∃ s ao c l, u = .agg #[.bool s, .slice ao l.length c] /\ l.length <= c /\ Dig l /\ l.length <= 549755813888 /\ Sl (NatIn .u32) 1 h ao l /\ zval s l = z
def ZC (h : Mem) (u : Value) (z : Int) : Prop := ∃ s ao c l, u = .agg #[.bool s, .slice ao l.length c] /\ l.length <= c /\ CanZ s l z /\ Sl (NatIn .u32) 1 h ao l
theorem ZV.mono : Mono ZV := by rintro h h' u x hl ⟨s, ao, c, l, rfl, h1, h2, h3, h4, h5⟩; exact ⟨s, ao, c, l, rfl, h1, h2, h3, h4.mono (NatIn.mono _) hl, h5⟩
theorem ZC.mono : Mono ZC := by rintro h h' u x hl ⟨s, ao, c, l, rfl, h1, h2, h3⟩; exact ⟨s, ao, c, l, rfl, h1, h2, h3.mono (NatIn.mono _) hl⟩
theorem ZC.zv {h : Mem} {u : Value} {z : Int} (hu : ZC h u z) (hn : lg z.natAbs <= 549755813888) : ZV h u z := by
  obtain ⟨s, ao, c, l, rfl, h1, h2, h3⟩ := hu
  exact ⟨s, ao, c, l, rfl, h1, h2.2.1, by rw [h2.len]; exact hn, h3, h2.val⟩
theorem ZC.zero (h : Mem) : ZC h (.agg #[.bool false, .slice none 0 0]) 0 := ⟨false, none, 0, [], rfl, Nat.le_refl _, CanZ.zero, Sl.nil _ _ _ _⟩
theorem ZV.lg {h : Mem} {u : Value} {z : Int} (hu : ZV h u z) : lg z.natAbs <= 549755813888 := by
  obtain ⟨s, ao, c, l, rfl, h1, h2, h3, h4, rfl⟩ := hu
  exact Nat.le_trans (zval_lg s l h2) h3
end Go.Rep
namespace Go.Proofs.YtgimdkjgaemcbaaGreat
open Go.RowKit Go.Rep Go.Lim
theorem ivalid (X : Nat -> Bool) (w : World) (s : Bool) (ao : Option Addr) (c : Nat) (l : List Nat) (hs : Sl (NatIn .u32) 1 (mk X w) ao l) (hl : l.length <= 549755813888) : Calls Tryz.prog 246 #[.agg #[.bool s, .slice ao l.length c]] w fun e w' => Ext w w' /\ e = .returned (.bool (validZ s l)) := by
  have hE : Ext w (w.alloc (.cells #[.bool s, .slice ao l.length c] 36)) := (ExtX.refl w).alloc _
  have hs1 := hs.mono (NatIn.mono _) (mk_ext hE)
  have hdef : Hid (validZ s l = (validL l && (decide (0 < l.length) || !s))) := hid rfl
  cases hv : validL l
  · have hf : Hid (validZ s l = false) := hid (by rw [hdef.out, hv]; rfl)
    have hv' := hid hv
    clear hv
    go_enter Tryz.func246, Tryz.ntmps246
    go_wp2_with fail
    refine (valid_any X _ _ _ _ hs1 (by omega)).mono ?_
    rintro e w' ⟨rfl, rfl⟩
    rw [hv'.out]
    go_wp2_with fail
    go_ret
    exact ⟨hE, ret_bool hf.out.symm⟩
  · have hf : Hid (validZ s l = (decide (0 < l.length) || !s)) := hid (by rw [hdef.out, hv]; rfl)
    have hv' := hid hv
    clear hv
    by_cases h0 : 0 < l.length
    · have hI : (0 : Int) < (l.length : Int) := by omega
      have hf2 : Hid (validZ s l = true) := hid (by rw [hf.out, decide_eq_true h0]; rfl)
      go_enter Tryz.func246, Tryz.ntmps246
      go_wp2_with fail
      refine (valid_any X _ _ _ _ hs1 (by omega)).mono ?_
      rintro e w' ⟨rfl, rfl⟩
      rw [hv'.out]
      go_wp2_with fail
      go_ret
      exact ⟨hE, ret_bool hf2.out.symm⟩
    · have hf2 : Hid (validZ s l = !s) := hid (by rw [hf.out, decide_eq_false h0]; rfl)
      obtain rfl : l = [] := List.eq_nil_of_length_eq_zero (by omega)
      clear h0 hf
      simp only [List.length_nil] at hE hs1 |-
      go_enter Tryz.func246, Tryz.ntmps246
      go_wp2_with fail
      refine (valid_any X _ [] _ _ hs1 (by simp)).mono ?_
      rintro e w' ⟨rfl, rfl⟩
      rw [hv'.out]
      go_wp2_with fail
      go_ret
      exact ⟨hE, ret_bool hf2.out.symm⟩
theorem stInt : StructT Tryz.prog 36 2 := by
  have h : (Tryz.prog.info? 36).map (fun i => (i.zero, i.size, i.bytes)) = some (some (.agg #[.bool false, .slice none 0 0]), 2, 32) := by kernel_rfl
  obtain ⟨ti, h1, _, h2, _⟩ := info_parts h
  exact ⟨_, ti, Tryz.underlying36, h1, h2⟩
theorem one2 (s : Bool) (ao : Option Addr) (n c : Nat) : ∀ v ∈ (#[Value.bool s, .slice ao n c] : Array Value).toList, v.oneCell' = true := by
  intro v hv; simp at hv; rcases hv with rfl | rfl <;> rfl
def hidB (X : Nat -> Bool) (lo nb : Nat) : Nat -> Bool := fun k => X k || (decide (lo <= k) && decide (k < lo + nb))
theorem hidB_in {X : Nat -> Bool} {lo nb k : Nat} (h1 : lo <= k) (h2 : k < lo + nb) : hidB X lo nb k = true := by simp [hidB, h1, h2]
theorem hidB_X {X : Nat -> Bool} {lo nb k : Nat} (h : X k = true) : hidB X lo nb k = true := by simp [hidB, h]
theorem _root_.Go.Rep.HX.boxes {X : Nat -> Bool} {w w' : World} {nb : Nat} (h : HX X w) (hz : w'.heap.size = w.heap.size + nb) : HX (hidB X w.heap.size nb) w' := fun k hk => by
  by_cases hx : X k = true
  · have := h k hx; omega
  · simp [hidB, hx] at hk; omega
theorem _root_.Go.Rep.HX.boxes' {X : Nat -> Bool} {w w' : World} {b nb : Nat} (h : HX X w) (hE : Ext w w') (hb : b + nb <= w'.heap.size) (_hz : w.heap.size + nb <= w'.heap.size) : HX (hidB X b nb) w' := fun k hk => by
  by_cases hx : X k = true
  · exact Nat.lt_of_lt_of_le (h k hx) hE.size
  · simp [hidB, hx] at hk; omega
theorem le_boxes {X : Nat -> Bool} {w w' : World} {nb : Nat} (hE : Ext w w') : Le (mk X w) (mk (hidB X w.heap.size nb) w') :=
  mk_over hE (fun k _ hk => by simp [noY] at hk) fun k hk hz => by
    by_cases hx : X k = true
    · exact hx
    · simp [hidB, hx] at hz; omega
theorem le_unbox {X : Nat -> Bool} {w : World} {lo nb : Nat} : Le (mk (hidB X lo nb) w) (mk X w) := mk_sub fun _ _ hk => hidB_X hk
theorem le_store {X : Nat -> Bool} {w w' : World} {lo nb b : Nat} (hE : ExtX (ob (some ⟨b, 0, none⟩)) w w') (h1 : lo <= b) (h2 : b < lo + nb) : Le (mk (hidB X lo nb) w) (mk (hidB X lo nb) w') :=
  mk_mono hE fun k hk => by
    have e : b = k := by simpa [ob] using hk
    subst e; exact hidB_in h1 h2
theorem ExtX.box {w0 w w' : World} {b : Nat} (h : Ext w0 w) (hE : ExtX (ob (some ⟨b, 0, none⟩)) w w') (hb : w0.heap.size <= b) : Ext w0 w' :=
  h.then_ hE fun i hi _ => ob_other (by omega)
theorem two_stores {X : Nat -> Bool} {w w6 : World} {b nb : Nat} {x0 x1 y0 y1 : Value} {T U : TypeId} (h0 : Bx w6 b #[x0, x1] T) (h1 : Bx w6 (b + 1) #[y0, y1] U) (hE : Ext w w6) (hb : w.heap.size <= b) (hn : 2 <= nb) (v0 v1 u0 u1 : Value) :
    ∃ wf, ((((w6.setCell ⟨b, 0, none⟩ v0).setCell ⟨b, 1, none⟩ v1).setCell ⟨b + 1, 0, none⟩ u0).setCell ⟨b + 1, 1, none⟩ u1) = wf /\ Bx wf b #[v0, v1] T /\ Bx wf (b + 1) #[u0, u1] U /\ (∀ k cs V, k ≠ b -> k ≠ b + 1 -> Bx w6 k cs V -> Bx wf k cs V) /\ Ext w wf /\ Le (mk (hidB X b nb) w6) (mk (hidB X b nb) wf) := by
  obtain ⟨r1, r2⟩ := h0.set2 v0 v1
  have h1' := h1.ext r2 (ob_other (by omega))
  obtain ⟨r3, r4⟩ := h1'.set2 u0 u1
  refine ⟨_, rfl, r1.ext r4 (ob_other (by omega)), r3, fun k cs V k1 k2 h => (h.ext r2 (ob_other k1)).ext r4 (ob_other k2), ExtX.box (ExtX.box hE r2 hb) r4 (by omega), (le_store r2 (Nat.le_refl _) (by omega)).trans (le_store r4 (by omega) (by omega))⟩
set_option maxRecDepth 100000 in
theorem ivalue (X : Nat -> Bool) (w : World) (u : Value) (z : Int) (hX : HX X w) (hu : ZV (mk X w) u z) : Calls Tryz.prog 197 #[u] w (ROut X w ZC z) := by
  obtain ⟨s, ao, c, l, rfl, h1, h2, h3, h4, rfl⟩ := hu
  obtain ⟨W, hW⟩ : ∃ W, (w.alloc (.cells #[.bool s, .slice ao l.length c] 36)).alloc (.cells #[.bool false, .slice none 0 0] 36) = W := ⟨_, rfl⟩
  have hE : Ext w W := by rw [<- hW]; exact ((ExtX.refl w).alloc _).alloc _
  have b0 : Bx W w.heap.size #[.bool s, .slice ao l.length c] 36 := by
    rw [<- hW]; exact (Bx.new w _ _).ext0 ((ExtX.refl _).alloc _)
  have b1 : Bx W (w.heap.size + 1) #[.bool false, .slice none 0 0] 36 := by
    rw [<- hW]; have := Bx.new (w.alloc (.cells #[.bool s, .slice ao l.length c] 36)) #[.bool false, .slice none 0 0] 36; simpa using this
  have hz : W.heap.size = w.heap.size + 2 := by rw [<- hW]; simp
  have hs1 : Sl (NatIn .u32) 1 (mk (hidB X w.heap.size 2) W) ao l := h4.mono (NatIn.mono _) (le_boxes hE)
  obtain ⟨b, hb⟩ : ∃ b, w.heap.size = b := ⟨_, rfl⟩
  have hbw : w.heap.size <= b := by omega
  have hXb : HX X w := hX
  rw [hb] at b0 b1 hz hs1
  have c0 := b0.cell 0 rfl
  have c1 := b0.cell 1 rfl
  cases hv : validZ s l
  · have hz0 := hid (zval_invalid hv)
    have hv' := hid hv
    clear hv
    go_enter Tryz.func197, Tryz.ntmps197
    go_wp2_with fail
    refine (ivalid (hidB X b 2) W s ao c l hs1 h3).mono ?_
    rintro e w1 ⟨hE1, rfl⟩
    rw [hv'.out]
    have b1' := b1.ext0 hE1
    clear c0 c1
    go_wp2_with ((with_reducible show wpList _ _ _ (⟨_, .store _ _ _, _, _, _, _⟩ :: _) _ _); refine st_storeBox stInt rfl rfl b1' rfl rfl (one2 _ _ _ _) ?_; intro w2 b2 hE2)
    exact bodyPost_ret (results_box rfl rfl stInt b2 rfl) rfl ⟨ExtX.box (hE.trans hE1) hE2 (by omega), _, rfl, by rw [hz0.out]; exact ZC.zero _⟩
  · have hv' := hid hv
    clear hv
    go_enter Tryz.func197, Tryz.ntmps197
    go_wp2_with fail
    refine (ivalid (hidB X b 2) W s ao c l hs1 h3).mono ?_
    rintro e w1 ⟨hE1, rfl⟩
    rw [hv'.out]
    have b0' := b0.ext0 hE1
    have b1' := b1.ext0 hE1
    have hs2 := hs1.mono (NatIn.mono _) (mk_ext hE1)
    clear c0 c1
    have c0 := b0'.cell 0 rfl
    have c1 := b0'.cell 1 rfl
    go_wp2_with ((with_reducible show wpList _ _ _ (⟨_, .store _ _ _, _, _, _, _⟩ :: _) _ _); refine st_storeBox stInt rfl rfl b1' rfl rfl (one2 _ _ _ _) ?_; intro w2 b2 hE2)
    have hs3 := (hs2.mono (NatIn.mono _) (le_store hE2 (by omega) (by omega))).mono (NatIn.mono _) le_unbox
    exact bodyPost_ret (results_box rfl rfl stInt b2 rfl) rfl ⟨ExtX.box (hE.trans hE1) hE2 (by omega), _, rfl, s, ao, c, l, rfl, h1, CanZ.of_valid h2 hv'.out, hs3⟩
end Go.Proofs.YtgimdkjgaemcbaaGreat
namespace Go.Lim
def sg (s : Bool) (n : Nat) : Int := if s then -(n : Int) else n
theorem sg_canz {s : Bool} {l : List Nat} {n : Nat} (h : Canon l n) : CanZ (s && decide (0 < l.length)) l (sg s n) := by
  have h0 := canon_len0 h
  unfold sg
  cases s
  · refine ⟨?_, by simpa using h⟩; simp
  · refine ⟨?_, by simpa using h⟩
    rw [Bool.true_and, Bool.eq_iff_iff]
    simp only [decide_eq_true_eq, if_true]
    omega
theorem sg_abs (s : Bool) (n : Nat) : (sg s n).natAbs = n := by unfold sg; split <;> simp
theorem sg_of {s : Bool} {l : List Nat} {z : Int} (h : CanZ s l z) : sg s z.natAbs = z := by
  unfold sg
  rw [h.1]
  by_cases hz : z < 0
  · simp only [hz, decide_true, if_true]; omega
  · simp only [hz, decide_false, Bool.false_eq_true, if_false]; omega
end Go.Lim
namespace Go.Proofs.YtgimdkjgaemcbaaGreat
open Go.RowKit Go.Rep Go.Lim
theorem isigned (X : Nat -> Bool) (w : World) (s : Bool) (u : Value) (n : Nat) (_hX : HX X w) (hu : NC (mk X w) u n) : Calls Tryz.prog 192 #[.bool s, u] w (ROut X w ZC (sg s n)) := by
  obtain ⟨ao, c, l, rfl, h1, h2, h3⟩ := hu
  obtain ⟨W, hW⟩ : ∃ W, w.alloc (.cells #[.bool false, .slice none 0 0] 36) = W := ⟨_, rfl⟩
  have hE : Ext w W := by rw [<- hW]; exact (ExtX.refl w).alloc _
  have b0 : Bx W w.heap.size #[.bool false, .slice none 0 0] 36 := by rw [<- hW]; exact Bx.new w _ _
  have hs1 : Sl (NatIn .u32) 1 (mk (hidB X w.heap.size 1) W) ao l := h3.mono (NatIn.mono _) (le_boxes hE)
  obtain ⟨b, hb⟩ : ∃ b, w.heap.size = b := ⟨_, rfl⟩
  have hbw : w.heap.size <= b := by omega
  rw [hb] at b0 hs1
  have hcz : Hid (CanZ (s && decide (0 < l.length)) l (sg s n)) := hid (sg_canz h2)
  cases s
  · rw [Bool.false_and] at hcz
    go_enter Tryz.func192, Tryz.ntmps192
    go_wp2_with ((with_reducible show wpList _ _ _ (⟨_, .store _ _ _, _, _, _, _⟩ :: _) _ _); refine st_storeBox stInt rfl rfl b0 rfl rfl (one2 _ _ _ _) ?_; intro w2 b2 hE2)
    have hs3 := (hs1.mono (NatIn.mono _) (le_store hE2 (by omega) (by omega))).mono (NatIn.mono _) le_unbox
    exact bodyPost_ret (results_box rfl rfl stInt b2 rfl) rfl ⟨ExtX.box hE hE2 (by omega), _, rfl, _, ao, c, l, rfl, h1, hcz.out, hs3⟩
  · rw [Bool.true_and] at hcz
    by_cases h0 : 0 < l.length
    · rw [decide_eq_true h0] at hcz
      go_enter Tryz.func192, Tryz.ntmps192
      go_wp2_with ((with_reducible show wpList _ _ _ (⟨_, .store _ _ _, _, _, _, _⟩ :: _) _ _); refine st_storeBox stInt rfl rfl b0 rfl rfl (one2 _ _ _ _) ?_; intro w2 b2 hE2)
      have hs3 := (hs1.mono (NatIn.mono _) (le_store hE2 (by omega) (by omega))).mono (NatIn.mono _) le_unbox
      exact bodyPost_ret (results_box rfl rfl stInt b2 rfl) rfl ⟨ExtX.box hE hE2 (by omega), _, rfl, _, ao, c, l, rfl, h1, hcz.out, hs3⟩
    · rw [decide_eq_false h0] at hcz
      obtain rfl : l = [] := List.eq_nil_of_length_eq_zero (by omega)
      clear h0
      simp only [List.length_nil] at h1 hcz hs1 |-
      go_enter Tryz.func192, Tryz.ntmps192
      go_wp2_with ((with_reducible show wpList _ _ _ (⟨_, .store _ _ _, _, _, _, _⟩ :: _) _ _); refine st_storeBox stInt rfl rfl b0 rfl rfl (one2 _ _ _ _) ?_; intro w2 b2 hE2)
      have hs3 := (hs1.mono (NatIn.mono _) (le_store hE2 (by omega) (by omega))).mono (NatIn.mono _) le_unbox
      exact bodyPost_ret (results_box rfl rfl stInt b2 rfl) rfl ⟨ExtX.box hE hE2 (by omega), _, rfl, _, ao, c, [], rfl, h1, hcz.out, hs3⟩
theorem icopied (X : Nat -> Bool) (w : World) (u : Value) (z : Int) (hX : HX X w) (hu : ZC (mk X w) u z) (hn : lg z.natAbs <= 549755813888) : Calls Tryz.prog 244 #[u] w (ROut X w ZC z) := by
  obtain ⟨s, ao, c, l, rfl, h1, h2, h3⟩ := hu
  obtain ⟨W, hW⟩ : ∃ W, (w.alloc (.cells #[.bool s, .slice ao l.length c] 36)).alloc (.cells #[.bool false, .slice none 0 0] 36) = W := ⟨_, rfl⟩
  have hE : Ext w W := by rw [<- hW]; exact ((ExtX.refl w).alloc _).alloc _
  have b0 : Bx W w.heap.size #[.bool s, .slice ao l.length c] 36 := by
    rw [<- hW]; exact (Bx.new w _ _).ext0 ((ExtX.refl _).alloc _)
  have b1 : Bx W (w.heap.size + 1) #[.bool false, .slice none 0 0] 36 := by
    rw [<- hW]; have := Bx.new (w.alloc (.cells #[.bool s, .slice ao l.length c] 36)) #[.bool false, .slice none 0 0] 36; simpa using this
  have hz : W.heap.size = w.heap.size + 2 := by rw [<- hW]; simp
  have hXW : HX (hidB X w.heap.size 2) W := hX.boxes hz
  have hu1 : NV (mk (hidB X w.heap.size 2) W) (.slice ao l.length c) z.natAbs := ⟨ao, c, l, rfl, h1, h2.2.1, by rw [h2.len]; omega, h3.mono (NatIn.mono _) (le_boxes hE), h2.2.val⟩
  obtain ⟨b, hb⟩ : ∃ b, w.heap.size = b := ⟨_, rfl⟩
  have hbw : w.heap.size <= b := by omega
  rw [hb] at b0 b1 hz hXW hu1
  have c0 := b0.cell 0 rfl
  have c1 := b0.cell 1 rfl
  have hsz := hid (sg_of h2)
  have hnz : ∀ M, NV M (.slice none 0 0) 0 := fun M => ⟨none, 0, [], rfl, Nat.le_refl _, Dig.nil, by simp, Sl.nil _ _ _ _, by simp [val, vl, nv]⟩
  go_enter Tryz.func244, Tryz.ntmps244
  go_wp2_with fail
  have c2 := b1.cell 0 rfl
  have c3 := b1.cell 1 rfl
  have f2 := b1.frozen 0
  have f3 := b1.frozen 1
  have hEd : Ext W W.drew := (ExtX.refl W).drew
  have hS : Hid (∀ W', Ext W.drew W' -> W'.cell? ⟨b, 0, none⟩ = some (.bool s) /\ W'.cell? ⟨b, 1, none⟩ = some (.slice ao l.length c) /\ W'.cell? ⟨b + 1, 0, none⟩ = some (.bool false) /\ W'.cell? ⟨b + 1, 1, none⟩ = some (.slice none 0 0) /\ W'.frozen? ⟨b + 1, 0, none⟩ = false /\ W'.frozen? ⟨b + 1, 1, none⟩ = false) :=
    hid fun W' h => ⟨(b0.ext0 (hEd.trans h)).cell 0 rfl, (b0.ext0 (hEd.trans h)).cell 1 rfl, (b1.ext0 (hEd.trans h)).cell 0 rfl, (b1.ext0 (hEd.trans h)).cell 1 rfl, (b1.ext0 (hEd.trans h)).frozen 0, (b1.ext0 (hEd.trans h)).frozen 1⟩
  go_region_held3 (fun w' => w'.cell? ⟨b, 0, none⟩ = some (.bool s) /\ w'.cell? ⟨b, 1, none⟩ = some (.slice ao l.length c))
    (first | exact ⟨(hS.out _ hE5).1, (hS.out _ hE5).2.1⟩ | exact ⟨(hS.out _ (hE5.trans hE6)).1, (hS.out _ (hE5.trans hE6)).2.1⟩ | go_keep)
    (first | (go_at_call 195; refine (nadd (X := hidB X b 2) (w := W.drew) hXW hu1 (hnz _)).mono ?_; rintro e w5 ⟨hE5, u5, rfl, hu5⟩) | (go_at_call 192; refine (isigned (hidB X b 2) w5 s u5 (z.natAbs + 0) (HX.ext (w := W.drew) hXW hE5) hu5).mono ?_; rintro e w6 ⟨hE6, u6, rfl, s6, a6, c6, l6, rfl, h61, h62, h63⟩; obtain ⟨g1, g2, g3, g4, g5, g6⟩ := hS.out w6 (hE5.trans hE6)))
  obtain ⟨r1, r2⟩ := (b1.ext0 ((hEd.trans hE5).trans hE6)).set2 (.bool s6) (.slice a6 l6.length c6)
  have h7 := (h63.mono (NatIn.mono _) (le_store r2 (by omega) (by omega))).mono (NatIn.mono _) le_unbox
  have hsg : sg s (z.natAbs + 0) = z := hsz.out
  rw [hsg] at h62
  have hEf : Ext w _ := ExtX.box (hE.trans ((hEd.trans hE5).trans hE6)) r2 (by omega)
  clear c0 c1 c2 c3 f2 f3 hS g1 g2 g3 g4 g5 g6
  go_wp2_with fail
  exact bodyPost_ret (results_box rfl rfl stInt r1 rfl) rfl ⟨hEf, _, rfl, s6, a6, c6, l6, rfl, h61, h62, h7⟩
end Go.Proofs.YtgimdkjgaemcbaaGreat
namespace Go.Proofs.YtgimdkjgaemcbaaGreat
open Go.RowKit Go.Rep Go.Lim
theorem rivalid (X : Nat -> Bool) (w : World) (s : Bool) (ao : Option Addr) (c : Nat) (l : List Nat) (hs : Sl (NatIn .u32) 1 (mk X w) ao l) (hl : l.length <= 549755813888) : Calls Tryz.prog 209 #[.agg #[.bool s, .slice ao l.length c]] w fun e w' => Ext w w' /\ e = .returned (.bool (validZ s l)) := by
  have hE : Ext w (w.alloc (.cells #[.bool s, .slice ao l.length c] 36)) := (ExtX.refl w).alloc _
  have hs1 := hs.mono (NatIn.mono _) (mk_ext hE)
  have hdef : Hid (validZ s l = (validL l && (decide (0 < l.length) || !s))) := hid rfl
  cases hv : validL l
  · have hf : Hid (validZ s l = false) := hid (by rw [hdef.out, hv]; rfl)
    have hv' := hid hv
    clear hv
    go_enter Tryz.func209, Tryz.ntmps209
    go_wp2_with fail
    refine (rvalid_any X _ _ _ _ hs1 (by omega)).mono ?_
    rintro e w' ⟨rfl, rfl⟩
    rw [hv'.out]
    go_wp2_with fail
    go_ret
    exact ⟨hE, ret_bool hf.out.symm⟩
  · have hf : Hid (validZ s l = (decide (0 < l.length) || !s)) := hid (by rw [hdef.out, hv]; rfl)
    have hv' := hid hv
    clear hv
    cases s
    · have hf2 : Hid (validZ false l = true) := hid (by rw [hf.out]; simp)
      clear hf hdef
      go_enter Tryz.func209, Tryz.ntmps209
      go_wp2_with fail
      refine (rvalid_any X _ _ _ _ hs1 (by omega)).mono ?_
      rintro e w' ⟨rfl, rfl⟩
      rw [hv'.out]
      go_wp2_with fail
      go_ret
      exact ⟨hE, ret_bool hf2.out.symm⟩
    · by_cases h0 : 0 < l.length
      · have hf2 : Hid (validZ true l = true) := hid (by rw [hf.out, decide_eq_true h0]; rfl)
        have hI : ((l.length : Int) == 0) = false := beqF (by omega)
        clear hf hdef
        go_enter Tryz.func209, Tryz.ntmps209
        go_wp2_with fail
        refine (rvalid_any X _ _ _ _ hs1 (by omega)).mono ?_
        rintro e w' ⟨rfl, rfl⟩
        rw [hv'.out]
        go_wp2_with fail
        go_ret
        exact ⟨hE, ret_bool hf2.out.symm⟩
      · have hf2 : Hid (validZ true l = false) := hid (by rw [hf.out, decide_eq_false h0]; rfl)
        obtain rfl : l = [] := List.eq_nil_of_length_eq_zero (by omega)
        clear h0 hf hdef
        simp only [List.length_nil] at hE hs1 |-
        go_enter Tryz.func209, Tryz.ntmps209
        go_wp2_with fail
        refine (rvalid_any X _ [] _ _ hs1 (by simp)).mono ?_
        rintro e w' ⟨rfl, rfl⟩
        rw [hv'.out]
        go_wp2_with fail
        go_ret
        exact ⟨hE, ret_bool hf2.out.symm⟩
set_option maxRecDepth 100000 in
theorem ritake (X : Nat -> Bool) (w : World) (u : Value) (z : Int) (hX : HX X w) (hu : ZV (mk X w) u z) : Calls Tryz.prog 153 #[u] w (ROut X w ZC z) := by
  obtain ⟨s, ao, c, l, rfl, h1, h2, h3, h4, rfl⟩ := hu
  obtain ⟨W, hW⟩ : ∃ W, (w.alloc (.cells #[.bool s, .slice ao l.length c] 36)).alloc (.cells #[.bool false, .slice none 0 0] 36) = W := ⟨_, rfl⟩
  have hE : Ext w W := by rw [<- hW]; exact ((ExtX.refl w).alloc _).alloc _
  have b0 : Bx W w.heap.size #[.bool s, .slice ao l.length c] 36 := by
    rw [<- hW]; exact (Bx.new w _ _).ext0 ((ExtX.refl _).alloc _)
  have b1 : Bx W (w.heap.size + 1) #[.bool false, .slice none 0 0] 36 := by
    rw [<- hW]; have := Bx.new (w.alloc (.cells #[.bool s, .slice ao l.length c] 36)) #[.bool false, .slice none 0 0] 36; simpa using this
  have hz : W.heap.size = w.heap.size + 2 := by rw [<- hW]; simp
  have hs1 : Sl (NatIn .u32) 1 (mk (hidB X w.heap.size 2) W) ao l := h4.mono (NatIn.mono _) (le_boxes hE)
  obtain ⟨b, hb⟩ : ∃ b, w.heap.size = b := ⟨_, rfl⟩
  have hbw : w.heap.size <= b := by omega
  have hXb : HX X w := hX
  rw [hb] at b0 b1 hz hs1
  have c0 := b0.cell 0 rfl
  have c1 := b0.cell 1 rfl
  cases hv : validZ s l
  · have hz0 := hid (zval_invalid hv)
    have hv' := hid hv
    clear hv
    go_enter Tryz.func153, Tryz.ntmps153
    go_wp2_with fail
    refine (rivalid (hidB X b 2) W s ao c l hs1 h3).mono ?_
    rintro e w1 ⟨hE1, rfl⟩
    rw [hv'.out]
    have b1' := b1.ext0 hE1
    clear c0 c1
    go_wp2_with ((with_reducible show wpList _ _ _ (⟨_, .store _ _ _, _, _, _, _⟩ :: _) _ _); refine st_storeBox stInt rfl rfl b1' rfl rfl (one2 _ _ _ _) ?_; intro w2 b2 hE2)
    exact bodyPost_ret (results_box rfl rfl stInt b2 rfl) rfl ⟨ExtX.box (hE.trans hE1) hE2 (by omega), _, rfl, by rw [hz0.out]; exact ZC.zero _⟩
  · have hv' := hid hv
    clear hv
    go_enter Tryz.func153, Tryz.ntmps153
    go_wp2_with fail
    refine (rivalid (hidB X b 2) W s ao c l hs1 h3).mono ?_
    rintro e w1 ⟨hE1, rfl⟩
    rw [hv'.out]
    have b0' := b0.ext0 hE1
    have b1' := b1.ext0 hE1
    have hX1 : HX (hidB X b 2) w1 := hX.boxes' (hE.trans hE1) (by have := b1'.lt; omega) (by have := b1'.lt; omega)
    have hcz := hid (CanZ.of_valid h2 hv'.out)
    have hnv : NV (mk (hidB X b 2) w1) (.slice ao l.length c) (nv l) := ⟨ao, c, l, rfl, h1, h2, by omega, hs1.mono (NatIn.mono _) (mk_ext hE1), by unfold val; rw [Canon.vl hcz.out.2]⟩
    have hXd : HX (hidB X b 2) w1.drew := hX1
    have hnd : NV (mk (hidB X b 2) w1.drew) (.slice ao l.length c) (nv l) := hnv
    have hEd : Ext w1 w1.drew := (ExtX.refl w1).drew
    have hB := hid (And.intro b0' b1')
    clear c0 c1
    have c0 := b0'.cell 0 rfl
    have c1 := b0'.cell 1 rfl
    go_wp2_with fail
    go_region_held3 (fun w' => w'.cell? ⟨b, 0, none⟩ = some (.bool s) /\ w'.cell? ⟨b, 1, none⟩ = some (.slice ao l.length c))
      (first | exact ⟨(hB.out.1.ext0 (hEd.trans hE5)).cell 0 rfl, (hB.out.1.ext0 (hEd.trans hE5)).cell 1 rfl⟩ | exact ⟨((hB.out.1.ext0 (hEd.trans hE5)).ext (bb2.set2 _ _).2 (ob_other (by omega))).cell 0 rfl, ((hB.out.1.ext0 (hEd.trans hE5)).ext (bb2.set2 _ _).2 (ob_other (by omega))).cell 1 rfl⟩ | go_keep)
      (first | (go_at_call 155; (with_reducible refine (rntake hXd hnd).mono ?_); rintro e w5 ⟨hE5, u5, rfl, a5, c5, l5, rfl, h51, h52, h53⟩; have bb2 := hB.out.2.ext0 (hEd.trans hE5); have g1 := bb2.cell 0 rfl; have g2 := bb2.cell 1 rfl; have g3 := bb2.frozen 0; have g4 := bb2.frozen 1))
    obtain ⟨r1, r2⟩ := bb2.set2 (.bool s) (.slice a5 l5.length c5)
    have h7 := (h53.mono (NatIn.mono _) (le_store r2 (by omega) (by omega))).mono (NatIn.mono _) le_unbox
    have hcz2 : CanZ s l5 (zval s l) := ⟨hcz.out.1, by rw [<- hcz.out.2.2.2]; exact h52⟩
    have hEf : Ext w _ := ExtX.box (hE.trans (hE1.trans (hEd.trans hE5))) r2 (by omega)
    clear g1 g2 g3 g4 c0 c1
    go_wp2_with fail
    exact bodyPost_ret (results_box rfl rfl stInt r1 rfl) rfl ⟨hEf, _, rfl, s, a5, c5, l5, rfl, h51, hcz2, h7⟩
theorem risigned (X : Nat -> Bool) (w : World) (s : Bool) (u : Value) (n : Nat) (_hX : HX X w) (hu : NC (mk X w) u n) : Calls Tryz.prog 150 #[.bool s, u] w (ROut X w ZC (sg s n)) := by
  obtain ⟨ao, c, l, rfl, h1, h2, h3⟩ := hu
  obtain ⟨W, hW⟩ : ∃ W, w.alloc (.cells #[.bool false, .slice none 0 0] 36) = W := ⟨_, rfl⟩
  have hE : Ext w W := by rw [<- hW]; exact (ExtX.refl w).alloc _
  have b0 : Bx W w.heap.size #[.bool false, .slice none 0 0] 36 := by rw [<- hW]; exact Bx.new w _ _
  have hs1 : Sl (NatIn .u32) 1 (mk (hidB X w.heap.size 1) W) ao l := h3.mono (NatIn.mono _) (le_boxes hE)
  obtain ⟨b, hb⟩ : ∃ b, w.heap.size = b := ⟨_, rfl⟩
  have hbw : w.heap.size <= b := by omega
  rw [hb] at b0 hs1
  have hcz : Hid (CanZ (s && decide (0 < l.length)) l (sg s n)) := hid (sg_canz h2)
  cases s
  · rw [Bool.false_and] at hcz
    go_enter Tryz.func150, Tryz.ntmps150
    go_wp2_with ((with_reducible show wpList _ _ _ (⟨_, .store _ _ _, _, _, _, _⟩ :: _) _ _); refine st_storeBox stInt rfl rfl b0 rfl rfl (one2 _ _ _ _) ?_; intro w2 b2 hE2)
    have hs3 := (hs1.mono (NatIn.mono _) (le_store hE2 (by omega) (by omega))).mono (NatIn.mono _) le_unbox
    exact bodyPost_ret (results_box rfl rfl stInt b2 rfl) rfl ⟨ExtX.box hE hE2 (by omega), _, rfl, _, ao, c, l, rfl, h1, hcz.out, hs3⟩
  · rw [Bool.true_and] at hcz
    by_cases h0 : 0 < l.length
    · rw [decide_eq_true h0] at hcz
      go_enter Tryz.func150, Tryz.ntmps150
      go_wp2_with ((with_reducible show wpList _ _ _ (⟨_, .store _ _ _, _, _, _, _⟩ :: _) _ _); refine st_storeBox stInt rfl rfl b0 rfl rfl (one2 _ _ _ _) ?_; intro w2 b2 hE2)
      have hs3 := (hs1.mono (NatIn.mono _) (le_store hE2 (by omega) (by omega))).mono (NatIn.mono _) le_unbox
      exact bodyPost_ret (results_box rfl rfl stInt b2 rfl) rfl ⟨ExtX.box hE hE2 (by omega), _, rfl, _, ao, c, l, rfl, h1, hcz.out, hs3⟩
    · rw [decide_eq_false h0] at hcz
      obtain rfl : l = [] := List.eq_nil_of_length_eq_zero (by omega)
      clear h0
      simp only [List.length_nil] at h1 hcz hs1 |-
      go_enter Tryz.func150, Tryz.ntmps150
      go_wp2_with ((with_reducible show wpList _ _ _ (⟨_, .store _ _ _, _, _, _, _⟩ :: _) _ _); refine st_storeBox stInt rfl rfl b0 rfl rfl (one2 _ _ _ _) ?_; intro w2 b2 hE2)
      have hs3 := (hs1.mono (NatIn.mono _) (le_store hE2 (by omega) (by omega))).mono (NatIn.mono _) le_unbox
      exact bodyPost_ret (results_box rfl rfl stInt b2 rfl) rfl ⟨ExtX.box hE hE2 (by omega), _, rfl, _, ao, c, [], rfl, h1, hcz.out, hs3⟩
end Go.Proofs.YtgimdkjgaemcbaaGreat
namespace Go.Proofs.YtgimdkjgaemcbaaGreat
open Go.RowKit Go.Rep Go.Lim
set_option maxRecDepth 100000 in
set_option maxHeartbeats 800000 in
theorem iadd (X : Nat -> Bool) (w : World) (u v : Value) (x y : Int) (hX : HX X w) (hu : ZV (mk X w) u x) (hv : ZV (mk X w) v y) : Calls Tryz.prog 142 #[u, v] w (ROut X w ZC (x + y)) := by
  have hlx := hid hu.lg
  have hly := hid hv.lg
  obtain ⟨s1, a1, c1, l1, rfl, hu'⟩ := id hu
  obtain ⟨s2, a2, c2, l2, rfl, hv'⟩ := id hv
  obtain ⟨W, hW, hE, b0, b1, b2, hz⟩ := boxes3 w #[.bool s1, .slice a1 l1.length c1] #[.bool s2, .slice a2 l2.length c2] #[.bool false, .slice none 0 0] 36 36 36
  have hXW : HX (hidB X w.heap.size 3) W := hX.boxes hz
  have hu1 := ZV.mono _ _ _ _ (le_boxes (nb := 3) hE) hu
  have hv1 := ZV.mono _ _ _ _ (le_boxes (nb := 3) hE) hv
  obtain ⟨b, hb⟩ : ∃ b, w.heap.size = b := ⟨_, rfl⟩
  have hbw : w.heap.size <= b := by omega
  rw [hb] at b0 b1 b2 hz hXW hu1 hv1
  have hEd : Ext W W.drew := (ExtX.refl W).drew
  have hXd : HX (hidB X b 3) W.drew := hXW
  have hud : ZV (mk (hidB X b 3) W.drew) (.agg #[.bool s1, .slice a1 l1.length c1]) x := hu1
  have hvd : ZV (mk (hidB X b 3) W.drew) (.agg #[.bool s2, .slice a2 l2.length c2]) y := hv1
  have k00 := b0.cell 0 rfl
  have k01 := b0.cell 1 rfl
  have k10 := b1.cell 0 rfl
  have k11 := b1.cell 1 rfl
  clear hu hv hu' hv'
  go_enter Tryz.func142, Tryz.ntmps142
  go_upto_region 1 with (fail)
  go_cut [] from 9 to 12 (fun wx => ∃ s3 a3 c3 l3 s4 a4 c4 l4, Bx wx b #[.bool s3, .slice a3 l3 c3] 36 /\ Bx wx (b + 1) #[.bool s4, .slice a4 l4 c4] 36 /\ Bx wx (b + 1 + 1) #[.bool false, .slice none 0 0] 36 /\ ZC (mk (hidB X b 3) wx) (.agg #[.bool s3, .slice a3 l3 c3]) x /\ ZC (mk (hidB X b 3) wx) (.agg #[.bool s4, .slice a4 l4 c4]) y /\ Ext w wx)
  case first =>
    go_region_with (first | (go_at_call 197; (with_reducible refine (ivalue (hidB X b 3) W.drew _ x hXd hud).mono ?_); rintro e w5 ⟨hE5, u5, rfl, s5, a5, c5, l5, rfl, h51, h52, h53⟩; have bb0 := b0.ext0 (hEd.trans hE5); have bb1 := b1.ext0 (hEd.trans hE5); have e00 := bb0.cell 0 rfl; have e01 := bb0.cell 1 rfl; have e10 := bb1.cell 0 rfl; have e11 := bb1.cell 1 rfl) | (go_at_call 197; (with_reducible refine (ivalue (hidB X b 3) w5 _ y (HX.ext hXd hE5) (mkx ZV.mono hvd hE5)).mono ?_); rintro e w6 ⟨hE6, u6, rfl, s6, a6, c6, l6, rfl, h61, h62, h63⟩; have bb2 := bb0.ext0 hE6; have bb3 := bb1.ext0 hE6; have g00 := bb2.cell 0 rfl; have g01 := bb2.cell 1 rfl; have g10 := bb3.cell 0 rfl; have g11 := bb3.cell 1 rfl; have fr0 := bb2.frozen 0; have fr1 := bb2.frozen 1; have fr2 := bb3.frozen 0; have fr3 := bb3.frozen 1))
    all_goals
      obtain ⟨wf, hwf, q0, q1, q2, q3, q4⟩ := two_stores (X := X) (nb := 3) bb2 bb3 (hE.trans ((hEd.trans hE5).trans hE6)) hbw (by omega) (.bool s5) (.slice a5 l5.length c5) (.bool s6) (.slice a6 l6.length c6)
      rw [hwf]
      have hfx : ZC (mk (hidB X b 3) wf) (.agg #[.bool s5, .slice a5 l5.length c5]) x := ⟨s5, a5, c5, l5, rfl, h51, h52, (h53.mono (NatIn.mono _) (mk_ext hE6)).mono (NatIn.mono _) q4⟩
      have hfy : ZC (mk (hidB X b 3) wf) (.agg #[.bool s6, .slice a6 l6.length c6]) y := ⟨s6, a6, c6, l6, rfl, h61, h62, h63.mono (NatIn.mono _) q4⟩
      have q5 := q2 (b + 1 + 1) _ _ (by omega) (by omega) ((b2.ext0 (hEd.trans hE5)).ext0 hE6)
      clear e00 e01 e10 e11 g00 g01 g10 g11 fr0 fr1 fr2 fr3 k00 k01 k10 k11 hwf
      go_wp2_with fail
      go_meet
      exact ⟨_, _, _, _, _, _, _, _, q0, q1, q5, hfx, hfy, q3⟩
  case rest =>
    clear k00 k01 k10 k11 b0 b1 b2 hu1 hv1 hud hvd hXd hEd hW
    obtain ⟨s3, a3, c3, n3, s4, a4, c4, n4, b0, b1, b2, hx, hy, hE1⟩ := hcut
    obtain ⟨_, _, _, l3, heq, h31, h32, h33⟩ := hx
    simp only [Value.agg.injEq, Array.mk.injEq, List.cons.injEq, Value.bool.injEq, Value.slice.injEq, and_true] at heq
    obtain ⟨rfl, rfl, rfl, rfl⟩ := heq
    obtain ⟨_, _, _, l4, heq, h41, h42, h43⟩ := hy
    simp only [Value.agg.injEq, Array.mk.injEq, List.cons.injEq, Value.bool.injEq, Value.slice.injEq, and_true] at heq
    obtain ⟨rfl, rfl, rfl, rfl⟩ := heq
    have hnx : NV (mk (hidB X b 3) wc) (.slice a3 l3.length c3) x.natAbs := NC.nv ⟨a3, c3, l3, rfl, h31, h32.2, h33⟩ (by have := hlx.out; omega)
    have hny : NV (mk (hidB X b 3) wc) (.slice a4 l4.length c4) y.natAbs := NC.nv ⟨a4, c4, l4, rfl, h41, h42.2, h43⟩ (by have := hly.out; omega)
    have hsx := hid h32.1
    have hsy := hid h42.1
    have hzz : w.heap.size + 3 <= wc.heap.size := by have := b2.lt; omega
    have hXc : HX (hidB X b 3) wc := hX.boxes' hE1 (by omega) hzz
    have hB := hid (And.intro b0 (And.intro b1 b2))
    have k00 := b0.cell 0 rfl
    have k01 := b0.cell 1 rfl
    have k10 := b1.cell 0 rfl
    have k11 := b1.cell 1 rfl
    have hlz := hid (sg_of h32)
    have hlw := hid (sg_of h42)
    have hEd : Ext wc wc.drew := (ExtX.refl wc).drew
    have hn1 : b + 1 ≠ b + 1 + 1 := by omega
    have hn2 : b ≠ b + 1 + 1 := by omega
    by_cases hss : s3 = s4
    · subst hss
      have hfin : Hid (sg s3 (x.natAbs + y.natAbs) = x + y) := hid (by
        have e1 := hlz.out; have e2 := hlw.out
        unfold sg at *
        cases s3 <;> simp at * <;> omega)
      go_wp2_with fail
      go_region_held3 (fun w' => w'.cell? ⟨b, 0, none⟩ = some (.bool s3) /\ w'.cell? ⟨b, 1, none⟩ = some (.slice a3 l3.length c3) /\ w'.cell? ⟨b + 1, 1, none⟩ = some (.slice a4 l4.length c4))
        (first | exact ⟨(hB.out.1.ext0 (hEd.trans hE5)).cell 0 rfl, (hB.out.1.ext0 (hEd.trans hE5)).cell 1 rfl, (hB.out.2.1.ext0 (hEd.trans hE5)).cell 1 rfl⟩ | exact ⟨(hB.out.1.ext0 (hEd.trans (hE5.trans hE6))).cell 0 rfl, (hB.out.1.ext0 (hEd.trans (hE5.trans hE6))).cell 1 rfl, (hB.out.2.1.ext0 (hEd.trans (hE5.trans hE6))).cell 1 rfl⟩ | exact ⟨((hB.out.1.ext0 (hEd.trans (hE5.trans hE6))).ext (bb2.set2 _ _).2 (ob_other (by omega))).cell 0 rfl, ((hB.out.1.ext0 (hEd.trans (hE5.trans hE6))).ext (bb2.set2 _ _).2 (ob_other (by omega))).cell 1 rfl, ((hB.out.2.1.ext0 (hEd.trans (hE5.trans hE6))).ext (bb2.set2 _ _).2 (ob_other (by omega))).cell 1 rfl⟩ | go_keep)
        (first | (go_at_call 195; refine (nadd (X := hidB X b 3) (w := wc.drew) hXc hnx hny).mono ?_; rintro e w5 ⟨hE5, u5, rfl, hu5⟩) | (go_at_call 192; refine (isigned (hidB X b 3) w5 s3 u5 (x.natAbs + y.natAbs) (HX.ext (w := wc.drew) hXc hE5) hu5).mono ?_; rintro e w6 ⟨hE6, u6, rfl, s6, a6, c6, l6, rfl, h61, h62, h63⟩; have bb2 := hB.out.2.2.ext0 (hEd.trans (hE5.trans hE6)); have g1 := bb2.cell 0 rfl; have g2 := bb2.cell 1 rfl; have g3 := bb2.frozen 0; have g4 := bb2.frozen 1))
      obtain ⟨r1, r2⟩ := bb2.set2 (.bool s6) (.slice a6 l6.length c6)
      have h7 := (h63.mono (NatIn.mono _) (le_store r2 (by omega) (by omega))).mono (NatIn.mono _) le_unbox
      rw [hfin.out] at h62
      have hEf : Ext w _ := ExtX.box (hE1.trans (hEd.trans (hE5.trans hE6))) r2 (by omega)
      clear g1 g2 g3 g4 k00 k01 k10 k11
      go_wp2_with fail
      exact bodyPost_ret (results_box rfl rfl stInt r1 rfl) rfl ⟨hEf, _, rfl, s6, a6, c6, l6, rfl, h61, h62, h7⟩
    · have hne : (s3 == s4) = false := by simpa using hss
      have hfin1 : Hid (y.natAbs <= x.natAbs -> sg s3 (x.natAbs - y.natAbs) = x + y) := hid (fun h => by
        have e1 := hlz.out; have e2 := hlw.out
        unfold sg at *
        cases s3 <;> cases s4 <;> simp at * <;> omega)
      have hfin2 : Hid (¬ y.natAbs <= x.natAbs -> sg s4 (y.natAbs - x.natAbs) = x + y) := hid (fun h => by
        have e1 := hlz.out; have e2 := hlw.out
        unfold sg at *
        cases s3 <;> cases s4 <;> simp at * <;> omega)
      clear hss
      go_wp2_with fail
      refine (nsub hXc hnx hny).mono ?_
      rintro e w5 ⟨hE5, u5, rfl, hu5⟩
      have hX5 := hXc.ext hE5
      have bb0 := hB.out.1.ext0 hE5
      have bb1 := hB.out.2.1.ext0 hE5
      have bb2 := hB.out.2.2.ext0 hE5
      clear k00 k01 k10 k11
      have k00 := bb0.cell 0 rfl
      have k01 := bb0.cell 1 rfl
      have k10 := bb1.cell 0 rfl
      have k11 := bb1.cell 1 rfl
      by_cases hle : y.natAbs <= x.natAbs
      · have hd : decide (y.natAbs <= x.natAbs) = true := decide_eq_true hle
        have hf := hid (hfin1.out hle)
        rw [hd]
        clear hd hle
        go_wp2_with fail
        refine (isigned (hidB X b 3) w5 s3 u5 _ hX5 hu5).mono ?_
        rintro e w6 ⟨hE6, u6, rfl, s6, a6, c6, l6, rfl, h61, h62, h63⟩
        have bb3 := bb2.ext0 hE6
        clear k00 k01 k10 k11
        go_wp2_with ((with_reducible show wpList _ _ _ (⟨_, .store _ _ _, _, _, _, _⟩ :: _) _ _); refine st_storeBox stInt rfl rfl bb3 rfl rfl (one2 _ _ _ _) ?_; intro w7 r1 r2)
        have h7 := (h63.mono (NatIn.mono _) (le_store r2 (by omega) (by omega))).mono (NatIn.mono _) le_unbox
        rw [hf.out] at h62
        exact bodyPost_ret (results_box rfl rfl stInt r1 rfl) rfl ⟨ExtX.box (hE1.trans (hE5.trans hE6)) r2 (by omega), _, rfl, s6, a6, c6, l6, rfl, h61, h62, h7⟩
      · have hd : decide (y.natAbs <= x.natAbs) = false := decide_eq_false hle
        have hf := hid (hfin2.out hle)
        rw [hd]
        clear hd hle
        go_wp2_with fail
        refine (nsub hX5 (mkx NV.mono hny hE5) (mkx NV.mono hnx hE5)).mono ?_
        rintro e w6 ⟨hE6, v5, rfl, hv5⟩
        have bc0 := bb0.ext0 hE6
        have bc1 := bb1.ext0 hE6
        have bc2 := bb2.ext0 hE6
        clear k00 k01 k10 k11
        have k10 := bc1.cell 0 rfl
        have k11 := bc1.cell 1 rfl
        go_wp2_with fail
        refine (isigned (hidB X b 3) w6 s4 v5 _ (hX5.ext hE6) hv5).mono ?_
        rintro e w7 ⟨hE7, u6, rfl, s6, a6, c6, l6, rfl, h61, h62, h63⟩
        have bb3 := bc2.ext0 hE7
        clear k10 k11
        go_wp2_with ((with_reducible show wpList _ _ _ (⟨_, .store _ _ _, _, _, _, _⟩ :: _) _ _); refine st_storeBox stInt rfl rfl bb3 rfl rfl (one2 _ _ _ _) ?_; intro w8 r1 r2)
        have h7 := (h63.mono (NatIn.mono _) (le_store r2 (by omega) (by omega))).mono (NatIn.mono _) le_unbox
        rw [hf.out] at h62
        exact bodyPost_ret (results_box rfl rfl stInt r1 rfl) rfl ⟨ExtX.box (hE1.trans (hE5.trans (hE6.trans hE7))) r2 (by omega), _, rfl, s6, a6, c6, l6, rfl, h61, h62, h7⟩
end Go.Proofs.YtgimdkjgaemcbaaGreat
namespace Go.Proofs.YtgimdkjgaemcbaaGreat
open Go.RowKit Go.Rep Go.Lim
set_option maxRecDepth 100000 in
set_option maxHeartbeats 800000 in
theorem riadd (X : Nat -> Bool) (w : World) (u v : Value) (x y : Int) (hX : HX X w) (hu : ZV (mk X w) u x) (hv : ZV (mk X w) v y) : Calls Tryz.prog 109 #[u, v] w (ROut X w ZC (x + y)) := by
  have hlx := hid hu.lg
  have hly := hid hv.lg
  obtain ⟨s1, a1, c1, l1, rfl, hu'⟩ := id hu
  obtain ⟨s2, a2, c2, l2, rfl, hv'⟩ := id hv
  obtain ⟨W, hW, hE, b0, b1, b2, hz⟩ := boxes3 w #[.bool s1, .slice a1 l1.length c1] #[.bool s2, .slice a2 l2.length c2] #[.bool false, .slice none 0 0] 36 36 36
  have hXW : HX (hidB X w.heap.size 3) W := hX.boxes hz
  have hu1 := ZV.mono _ _ _ _ (le_boxes (nb := 3) hE) hu
  have hv1 := ZV.mono _ _ _ _ (le_boxes (nb := 3) hE) hv
  obtain ⟨b, hb⟩ : ∃ b, w.heap.size = b := ⟨_, rfl⟩
  have hbw : w.heap.size <= b := by omega
  rw [hb] at b0 b1 b2 hz hXW hu1 hv1
  have hEd : Ext W W.drew := (ExtX.refl W).drew
  have hXd : HX (hidB X b 3) W.drew := hXW
  have hud : ZV (mk (hidB X b 3) W.drew) (.agg #[.bool s1, .slice a1 l1.length c1]) x := hu1
  have hvd : ZV (mk (hidB X b 3) W.drew) (.agg #[.bool s2, .slice a2 l2.length c2]) y := hv1
  have k00 := b0.cell 0 rfl
  have k01 := b0.cell 1 rfl
  have k10 := b1.cell 0 rfl
  have k11 := b1.cell 1 rfl
  clear hu hv hu' hv'
  go_enter Tryz.func109, Tryz.ntmps109
  go_upto_region 1 with (fail)
  go_cut [] from 9 to 12 (fun wx => ∃ s3 a3 c3 l3 s4 a4 c4 l4, Bx wx b #[.bool s3, .slice a3 l3 c3] 36 /\ Bx wx (b + 1) #[.bool s4, .slice a4 l4 c4] 36 /\ Bx wx (b + 1 + 1) #[.bool false, .slice none 0 0] 36 /\ ZC (mk (hidB X b 3) wx) (.agg #[.bool s3, .slice a3 l3 c3]) x /\ ZC (mk (hidB X b 3) wx) (.agg #[.bool s4, .slice a4 l4 c4]) y /\ Ext w wx)
  case first =>
    go_region_with (first | (go_at_call 153; (with_reducible refine (ritake (hidB X b 3) W.drew _ x hXd hud).mono ?_); rintro e w5 ⟨hE5, u5, rfl, s5, a5, c5, l5, rfl, h51, h52, h53⟩; have bb0 := b0.ext0 (hEd.trans hE5); have bb1 := b1.ext0 (hEd.trans hE5); have e00 := bb0.cell 0 rfl; have e01 := bb0.cell 1 rfl; have e10 := bb1.cell 0 rfl; have e11 := bb1.cell 1 rfl) | (go_at_call 153; (with_reducible refine (ritake (hidB X b 3) w5 _ y (HX.ext hXd hE5) (mkx ZV.mono hvd hE5)).mono ?_); rintro e w6 ⟨hE6, u6, rfl, s6, a6, c6, l6, rfl, h61, h62, h63⟩; have bb2 := bb0.ext0 hE6; have bb3 := bb1.ext0 hE6; have g00 := bb2.cell 0 rfl; have g01 := bb2.cell 1 rfl; have g10 := bb3.cell 0 rfl; have g11 := bb3.cell 1 rfl; have fr0 := bb2.frozen 0; have fr1 := bb2.frozen 1; have fr2 := bb3.frozen 0; have fr3 := bb3.frozen 1))
    all_goals
      obtain ⟨wf, hwf, q0, q1, q2, q3, q4⟩ := two_stores (X := X) (nb := 3) bb2 bb3 (hE.trans ((hEd.trans hE5).trans hE6)) hbw (by omega) (.bool s5) (.slice a5 l5.length c5) (.bool s6) (.slice a6 l6.length c6)
      rw [hwf]
      have hfx : ZC (mk (hidB X b 3) wf) (.agg #[.bool s5, .slice a5 l5.length c5]) x := ⟨s5, a5, c5, l5, rfl, h51, h52, (h53.mono (NatIn.mono _) (mk_ext hE6)).mono (NatIn.mono _) q4⟩
      have hfy : ZC (mk (hidB X b 3) wf) (.agg #[.bool s6, .slice a6 l6.length c6]) y := ⟨s6, a6, c6, l6, rfl, h61, h62, h63.mono (NatIn.mono _) q4⟩
      have q5 := q2 (b + 1 + 1) _ _ (by omega) (by omega) ((b2.ext0 (hEd.trans hE5)).ext0 hE6)
      clear e00 e01 e10 e11 g00 g01 g10 g11 fr0 fr1 fr2 fr3 k00 k01 k10 k11 hwf
      go_wp2_with fail
      go_meet
      exact ⟨_, _, _, _, _, _, _, _, q0, q1, q5, hfx, hfy, q3⟩
  case rest =>
    clear k00 k01 k10 k11 b0 b1 b2 hu1 hv1 hud hvd hXd hEd hW
    obtain ⟨s3, a3, c3, n3, s4, a4, c4, n4, b0, b1, b2, hx, hy, hE1⟩ := hcut
    obtain ⟨_, _, _, l3, heq, h31, h32, h33⟩ := hx
    simp only [Value.agg.injEq, Array.mk.injEq, List.cons.injEq, Value.bool.injEq, Value.slice.injEq, and_true] at heq
    obtain ⟨rfl, rfl, rfl, rfl⟩ := heq
    obtain ⟨_, _, _, l4, heq, h41, h42, h43⟩ := hy
    simp only [Value.agg.injEq, Array.mk.injEq, List.cons.injEq, Value.bool.injEq, Value.slice.injEq, and_true] at heq
    obtain ⟨rfl, rfl, rfl, rfl⟩ := heq
    have hnx : NV (mk (hidB X b 3) wc) (.slice a3 l3.length c3) x.natAbs := NC.nv ⟨a3, c3, l3, rfl, h31, h32.2, h33⟩ (by have := hlx.out; omega)
    have hny : NV (mk (hidB X b 3) wc) (.slice a4 l4.length c4) y.natAbs := NC.nv ⟨a4, c4, l4, rfl, h41, h42.2, h43⟩ (by have := hly.out; omega)
    have hsx := hid h32.1
    have hsy := hid h42.1
    have hzz : w.heap.size + 3 <= wc.heap.size := by have := b2.lt; omega
    have hXc : HX (hidB X b 3) wc := hX.boxes' hE1 (by omega) hzz
    have hB := hid (And.intro b0 (And.intro b1 b2))
    have k00 := b0.cell 0 rfl
    have k01 := b0.cell 1 rfl
    have k10 := b1.cell 0 rfl
    have k11 := b1.cell 1 rfl
    have hlz := hid (sg_of h32)
    have hlw := hid (sg_of h42)
    have hEd : Ext wc wc.drew := (ExtX.refl wc).drew
    have hn1 : b + 1 ≠ b + 1 + 1 := by omega
    have hn2 : b ≠ b + 1 + 1 := by omega
    by_cases hss : s3 = s4
    · subst hss
      have hfin : Hid (sg s3 (x.natAbs + y.natAbs) = x + y) := hid (by
        have e1 := hlz.out; have e2 := hlw.out
        unfold sg at *
        cases s3 <;> simp at * <;> omega)
      go_wp2_with fail
      go_region_held3 (fun w' => w'.cell? ⟨b, 0, none⟩ = some (.bool s3) /\ w'.cell? ⟨b, 1, none⟩ = some (.slice a3 l3.length c3) /\ w'.cell? ⟨b + 1, 1, none⟩ = some (.slice a4 l4.length c4))
        (first | exact ⟨(hB.out.1.ext0 (hEd.trans hE5)).cell 0 rfl, (hB.out.1.ext0 (hEd.trans hE5)).cell 1 rfl, (hB.out.2.1.ext0 (hEd.trans hE5)).cell 1 rfl⟩ | exact ⟨(hB.out.1.ext0 (hEd.trans (hE5.trans hE6))).cell 0 rfl, (hB.out.1.ext0 (hEd.trans (hE5.trans hE6))).cell 1 rfl, (hB.out.2.1.ext0 (hEd.trans (hE5.trans hE6))).cell 1 rfl⟩ | exact ⟨((hB.out.1.ext0 (hEd.trans (hE5.trans hE6))).ext (bb2.set2 _ _).2 (ob_other (by omega))).cell 0 rfl, ((hB.out.1.ext0 (hEd.trans (hE5.trans hE6))).ext (bb2.set2 _ _).2 (ob_other (by omega))).cell 1 rfl, ((hB.out.2.1.ext0 (hEd.trans (hE5.trans hE6))).ext (bb2.set2 _ _).2 (ob_other (by omega))).cell 1 rfl⟩ | go_keep)
        (first | (go_at_call 151; refine (rnadd (X := hidB X b 3) (w := wc.drew) hXc hnx hny).mono ?_; rintro e w5 ⟨hE5, u5, rfl, hu5⟩) | (go_at_call 150; refine (risigned (hidB X b 3) w5 s3 u5 (x.natAbs + y.natAbs) (HX.ext (w := wc.drew) hXc hE5) hu5).mono ?_; rintro e w6 ⟨hE6, u6, rfl, s6, a6, c6, l6, rfl, h61, h62, h63⟩; have bb2 := hB.out.2.2.ext0 (hEd.trans (hE5.trans hE6)); have g1 := bb2.cell 0 rfl; have g2 := bb2.cell 1 rfl; have g3 := bb2.frozen 0; have g4 := bb2.frozen 1))
      obtain ⟨r1, r2⟩ := bb2.set2 (.bool s6) (.slice a6 l6.length c6)
      have h7 := (h63.mono (NatIn.mono _) (le_store r2 (by omega) (by omega))).mono (NatIn.mono _) le_unbox
      rw [hfin.out] at h62
      have hEf : Ext w _ := ExtX.box (hE1.trans (hEd.trans (hE5.trans hE6))) r2 (by omega)
      clear g1 g2 g3 g4 k00 k01 k10 k11
      go_wp2_with fail
      exact bodyPost_ret (results_box rfl rfl stInt r1 rfl) rfl ⟨hEf, _, rfl, s6, a6, c6, l6, rfl, h61, h62, h7⟩
    · have hne : (s3 == s4) = false := by simpa using hss
      have hfin1 : Hid (y.natAbs <= x.natAbs -> sg s3 (x.natAbs - y.natAbs) = x + y) := hid (fun h => by
        have e1 := hlz.out; have e2 := hlw.out
        unfold sg at *
        cases s3 <;> cases s4 <;> simp at * <;> omega)
      have hfin2 : Hid (¬ y.natAbs <= x.natAbs -> sg s4 (y.natAbs - x.natAbs) = x + y) := hid (fun h => by
        have e1 := hlz.out; have e2 := hlw.out
        unfold sg at *
        cases s3 <;> cases s4 <;> simp at * <;> omega)
      clear hss
      go_wp2_with fail
      refine (rnsub _ _ _ _ _ _ hXc hnx hny).mono ?_
      rintro e w5 ⟨hE5, u5, rfl, hu5⟩
      have hX5 := hXc.ext hE5
      have bb0 := hB.out.1.ext0 hE5
      have bb1 := hB.out.2.1.ext0 hE5
      have bb2 := hB.out.2.2.ext0 hE5
      clear k00 k01 k10 k11
      have k00 := bb0.cell 0 rfl
      have k01 := bb0.cell 1 rfl
      have k10 := bb1.cell 0 rfl
      have k11 := bb1.cell 1 rfl
      by_cases hle : y.natAbs <= x.natAbs
      · have hd : decide (y.natAbs <= x.natAbs) = true := decide_eq_true hle
        have hf := hid (hfin1.out hle)
        rw [hd]
        clear hd hle
        go_wp2_with fail
        refine (risigned (hidB X b 3) w5 s3 u5 _ hX5 hu5).mono ?_
        rintro e w6 ⟨hE6, u6, rfl, s6, a6, c6, l6, rfl, h61, h62, h63⟩
        have bb3 := bb2.ext0 hE6
        clear k00 k01 k10 k11
        go_wp2_with ((with_reducible show wpList _ _ _ (⟨_, .store _ _ _, _, _, _, _⟩ :: _) _ _); refine st_storeBox stInt rfl rfl bb3 rfl rfl (one2 _ _ _ _) ?_; intro w7 r1 r2)
        have h7 := (h63.mono (NatIn.mono _) (le_store r2 (by omega) (by omega))).mono (NatIn.mono _) le_unbox
        rw [hf.out] at h62
        exact bodyPost_ret (results_box rfl rfl stInt r1 rfl) rfl ⟨ExtX.box (hE1.trans (hE5.trans hE6)) r2 (by omega), _, rfl, s6, a6, c6, l6, rfl, h61, h62, h7⟩
      · have hd : decide (y.natAbs <= x.natAbs) = false := decide_eq_false hle
        have hf := hid (hfin2.out hle)
        rw [hd]
        clear hd hle
        go_wp2_with fail
        refine (rnsub _ _ _ _ _ _ hX5 (mkx NV.mono hny hE5) (mkx NV.mono hnx hE5)).mono ?_
        rintro e w6 ⟨hE6, v5, rfl, hv5⟩
        have bc0 := bb0.ext0 hE6
        have bc1 := bb1.ext0 hE6
        have bc2 := bb2.ext0 hE6
        clear k00 k01 k10 k11
        have k10 := bc1.cell 0 rfl
        have k11 := bc1.cell 1 rfl
        go_wp2_with fail
        refine (risigned (hidB X b 3) w6 s4 v5 _ (hX5.ext hE6) hv5).mono ?_
        rintro e w7 ⟨hE7, u6, rfl, s6, a6, c6, l6, rfl, h61, h62, h63⟩
        have bb3 := bc2.ext0 hE7
        clear k10 k11
        go_wp2_with ((with_reducible show wpList _ _ _ (⟨_, .store _ _ _, _, _, _, _⟩ :: _) _ _); refine st_storeBox stInt rfl rfl bb3 rfl rfl (one2 _ _ _ _) ?_; intro w8 r1 r2)
        have h7 := (h63.mono (NatIn.mono _) (le_store r2 (by omega) (by omega))).mono (NatIn.mono _) le_unbox
        rw [hf.out] at h62
        exact bodyPost_ret (results_box rfl rfl stInt r1 rfl) rfl ⟨ExtX.box (hE1.trans (hE5.trans (hE6.trans hE7))) r2 (by omega), _, rfl, s6, a6, c6, l6, rfl, h61, h62, h7⟩
end Go.Proofs.YtgimdkjgaemcbaaGreat
namespace Go.Proofs.YtgimdkjgaemcbaaGreat
open Go.RowKit Go.Rep Go.Lim
set_option maxRecDepth 100000 in
set_option maxHeartbeats 800000 in
theorem imul (X : Nat -> Bool) (w : World) (u v : Value) (x y : Int) (hX : HX X w) (hu : ZV (mk X w) u x) (hv : ZV (mk X w) v y) : Calls Tryz.prog 181 #[u, v] w (ROut X w ZC (x * y)) := by
  have hlx := hid hu.lg
  have hly := hid hv.lg
  obtain ⟨s1, a1, c1, l1, rfl, hu'⟩ := id hu
  obtain ⟨s2, a2, c2, l2, rfl, hv'⟩ := id hv
  obtain ⟨W, hW, hE, b0, b1, b2, hz⟩ := boxes3 w #[.bool s1, .slice a1 l1.length c1] #[.bool s2, .slice a2 l2.length c2] #[.bool false, .slice none 0 0] 36 36 36
  have hXW : HX (hidB X w.heap.size 3) W := hX.boxes hz
  have hu1 := ZV.mono _ _ _ _ (le_boxes (nb := 3) hE) hu
  have hv1 := ZV.mono _ _ _ _ (le_boxes (nb := 3) hE) hv
  obtain ⟨b, hb⟩ : ∃ b, w.heap.size = b := ⟨_, rfl⟩
  have hbw : w.heap.size <= b := by omega
  rw [hb] at b0 b1 b2 hz hXW hu1 hv1
  have hEd : Ext W W.drew := (ExtX.refl W).drew
  have hXd : HX (hidB X b 3) W.drew := hXW
  have hud : ZV (mk (hidB X b 3) W.drew) (.agg #[.bool s1, .slice a1 l1.length c1]) x := hu1
  have hvd : ZV (mk (hidB X b 3) W.drew) (.agg #[.bool s2, .slice a2 l2.length c2]) y := hv1
  have k00 := b0.cell 0 rfl
  have k01 := b0.cell 1 rfl
  have k10 := b1.cell 0 rfl
  have k11 := b1.cell 1 rfl
  clear hu hv hu' hv'
  go_enter Tryz.func181, Tryz.ntmps181
  go_upto_region 1 with (fail)
  go_cut [] from 5 to 8 (fun wx => ∃ s3 a3 c3 l3 s4 a4 c4 l4, Bx wx b #[.bool s3, .slice a3 l3 c3] 36 /\ Bx wx (b + 1) #[.bool s4, .slice a4 l4 c4] 36 /\ Bx wx (b + 1 + 1) #[.bool false, .slice none 0 0] 36 /\ ZC (mk (hidB X b 3) wx) (.agg #[.bool s3, .slice a3 l3 c3]) x /\ ZC (mk (hidB X b 3) wx) (.agg #[.bool s4, .slice a4 l4 c4]) y /\ Ext w wx)
  case first =>
    go_region_with (first | (go_at_call 197; (with_reducible refine (ivalue (hidB X b 3) W.drew _ x hXd hud).mono ?_); rintro e w5 ⟨hE5, u5, rfl, s5, a5, c5, l5, rfl, h51, h52, h53⟩; have bb0 := b0.ext0 (hEd.trans hE5); have bb1 := b1.ext0 (hEd.trans hE5); have e00 := bb0.cell 0 rfl; have e01 := bb0.cell 1 rfl; have e10 := bb1.cell 0 rfl; have e11 := bb1.cell 1 rfl) | (go_at_call 197; (with_reducible refine (ivalue (hidB X b 3) w5 _ y (HX.ext hXd hE5) (mkx ZV.mono hvd hE5)).mono ?_); rintro e w6 ⟨hE6, u6, rfl, s6, a6, c6, l6, rfl, h61, h62, h63⟩; have bb2 := bb0.ext0 hE6; have bb3 := bb1.ext0 hE6; have g00 := bb2.cell 0 rfl; have g01 := bb2.cell 1 rfl; have g10 := bb3.cell 0 rfl; have g11 := bb3.cell 1 rfl; have fr0 := bb2.frozen 0; have fr1 := bb2.frozen 1; have fr2 := bb3.frozen 0; have fr3 := bb3.frozen 1))
    all_goals
      obtain ⟨wf, hwf, q0, q1, q2, q3, q4⟩ := two_stores (X := X) (nb := 3) bb2 bb3 (hE.trans ((hEd.trans hE5).trans hE6)) hbw (by omega) (.bool s5) (.slice a5 l5.length c5) (.bool s6) (.slice a6 l6.length c6)
      rw [hwf]
      have hfx : ZC (mk (hidB X b 3) wf) (.agg #[.bool s5, .slice a5 l5.length c5]) x := ⟨s5, a5, c5, l5, rfl, h51, h52, (h53.mono (NatIn.mono _) (mk_ext hE6)).mono (NatIn.mono _) q4⟩
      have hfy : ZC (mk (hidB X b 3) wf) (.agg #[.bool s6, .slice a6 l6.length c6]) y := ⟨s6, a6, c6, l6, rfl, h61, h62, h63.mono (NatIn.mono _) q4⟩
      have q5 := q2 (b + 1 + 1) _ _ (by omega) (by omega) ((b2.ext0 (hEd.trans hE5)).ext0 hE6)
      clear e00 e01 e10 e11 g00 g01 g10 g11 fr0 fr1 fr2 fr3 k00 k01 k10 k11 hwf
      go_wp2_with fail
      go_meet
      exact ⟨_, _, _, _, _, _, _, _, q0, q1, q5, hfx, hfy, q3⟩
  case rest =>
    clear k00 k01 k10 k11 b0 b1 b2 hu1 hv1 hud hvd hXd hEd hW
    obtain ⟨s3, a3, c3, n3, s4, a4, c4, n4, b0, b1, b2, hx, hy, hE1⟩ := hcut
    obtain ⟨_, _, _, l3, heq, h31, h32, h33⟩ := hx
    simp only [Value.agg.injEq, Array.mk.injEq, List.cons.injEq, Value.bool.injEq, Value.slice.injEq, and_true] at heq
    obtain ⟨rfl, rfl, rfl, rfl⟩ := heq
    obtain ⟨_, _, _, l4, heq, h41, h42, h43⟩ := hy
    simp only [Value.agg.injEq, Array.mk.injEq, List.cons.injEq, Value.bool.injEq, Value.slice.injEq, and_true] at heq
    obtain ⟨rfl, rfl, rfl, rfl⟩ := heq
    have hlz := hid (sg_of h32)
    have hlw := hid (sg_of h42)
    have hsx := hid h32.1
    have hsy := hid h42.1
    have hEd : Ext wc wc.drew := (ExtX.refl wc).drew
    have hnx : NV (mk (hidB X b 3) wc) (.slice a3 l3.length c3) x.natAbs := NC.nv ⟨a3, c3, l3, rfl, h31, h32.2, h33⟩ (by have := hlx.out; omega)
    have hny : NV (mk (hidB X b 3) wc) (.slice a4 l4.length c4) y.natAbs := NC.nv ⟨a4, c4, l4, rfl, h41, h42.2, h43⟩ (by have := hly.out; omega)
    have hzz : w.heap.size + 3 <= wc.heap.size := by have := b2.lt; omega
    have hXc : HX (hidB X b 3) wc := hX.boxes' hE1 (by omega) hzz
    have hB := hid (And.intro b0 (And.intro b1 b2))
    have k00 := b0.cell 0 rfl
    have k01 := b0.cell 1 rfl
    have k10 := b1.cell 0 rfl
    have k11 := b1.cell 1 rfl
    have hn1 : b + 1 ≠ b + 1 + 1 := by omega
    have hn2 : b ≠ b + 1 + 1 := by omega
    obtain ⟨sn, hsn⟩ : ∃ sn, (s3 != s4) = sn := ⟨_, rfl⟩
    have hfin : Hid (sg sn (x.natAbs * y.natAbs) = x * y) := hid (by
      have e1 := hlz.out; have e2 := hlw.out
      rw [<- hsn, <- e1, <- e2, sg_abs, sg_abs]
      unfold sg
      cases s3 <;> cases s4 <;> simp [Int.natCast_mul, Int.neg_mul, Int.mul_neg])
    have hsn' := hid hsn
    clear hsx hsy hlz hlw hsn h32 h42
    cases s3 <;> cases s4
    · obtain rfl : sn = false := hsn'.out.symm
      clear hsn'
      go_wp2_with fail
      go_region_held3 (fun w' => w'.cell? ⟨b, 0, none⟩ = some (.bool false) /\ w'.cell? ⟨b, 1, none⟩ = some (.slice a3 l3.length c3) /\ w'.cell? ⟨b + 1, 0, none⟩ = some (.bool false) /\ w'.cell? ⟨b + 1, 1, none⟩ = some (.slice a4 l4.length c4))
        (first | exact ⟨(hB.out.1.ext0 (hEd.trans hE5)).cell 0 rfl, (hB.out.1.ext0 (hEd.trans hE5)).cell 1 rfl, (hB.out.2.1.ext0 (hEd.trans hE5)).cell 0 rfl, (hB.out.2.1.ext0 (hEd.trans hE5)).cell 1 rfl⟩ | exact ⟨(hB.out.1.ext0 (hEd.trans (hE5.trans hE6))).cell 0 rfl, (hB.out.1.ext0 (hEd.trans (hE5.trans hE6))).cell 1 rfl, (hB.out.2.1.ext0 (hEd.trans (hE5.trans hE6))).cell 0 rfl, (hB.out.2.1.ext0 (hEd.trans (hE5.trans hE6))).cell 1 rfl⟩ | exact ⟨((hB.out.1.ext0 (hEd.trans (hE5.trans hE6))).ext (bb2.set2 _ _).2 (ob_other (by omega))).cell 0 rfl, ((hB.out.1.ext0 (hEd.trans (hE5.trans hE6))).ext (bb2.set2 _ _).2 (ob_other (by omega))).cell 1 rfl, ((hB.out.2.1.ext0 (hEd.trans (hE5.trans hE6))).ext (bb2.set2 _ _).2 (ob_other (by omega))).cell 0 rfl, ((hB.out.2.1.ext0 (hEd.trans (hE5.trans hE6))).ext (bb2.set2 _ _).2 (ob_other (by omega))).cell 1 rfl⟩ | go_keep)
        (first | (go_at_call 146; refine (nmul (X := hidB X b 3) (w := wc.drew) hXc hnx hny).mono ?_; rintro e w5 ⟨hE5, u5, rfl, hu5⟩) | (go_at_call 192; refine (isigned (hidB X b 3) w5 false u5 (x.natAbs * y.natAbs) (HX.ext (w := wc.drew) hXc hE5) hu5).mono ?_; rintro e w6 ⟨hE6, u6, rfl, s6, a6, c6, l6, rfl, h61, h62, h63⟩; have bb2 := hB.out.2.2.ext0 (hEd.trans (hE5.trans hE6)); have g1 := bb2.cell 0 rfl; have g2 := bb2.cell 1 rfl; have g3 := bb2.frozen 0; have g4 := bb2.frozen 1))
      obtain ⟨r1, r2⟩ := bb2.set2 (.bool s6) (.slice a6 l6.length c6)
      have h7 := (h63.mono (NatIn.mono _) (le_store r2 (by omega) (by omega))).mono (NatIn.mono _) le_unbox
      rw [hfin.out] at h62
      have hEf : Ext w _ := ExtX.box (hE1.trans (hEd.trans (hE5.trans hE6))) r2 (by omega)
      clear g1 g2 g3 g4 k00 k01 k10 k11
      go_wp2_with fail
      exact bodyPost_ret (results_box rfl rfl stInt r1 rfl) rfl ⟨hEf, _, rfl, s6, a6, c6, l6, rfl, h61, h62, h7⟩
    · obtain rfl : sn = true := hsn'.out.symm
      clear hsn'
      go_wp2_with fail
      go_region_held3 (fun w' => w'.cell? ⟨b, 0, none⟩ = some (.bool false) /\ w'.cell? ⟨b, 1, none⟩ = some (.slice a3 l3.length c3) /\ w'.cell? ⟨b + 1, 0, none⟩ = some (.bool true) /\ w'.cell? ⟨b + 1, 1, none⟩ = some (.slice a4 l4.length c4))
        (first | exact ⟨(hB.out.1.ext0 (hEd.trans hE5)).cell 0 rfl, (hB.out.1.ext0 (hEd.trans hE5)).cell 1 rfl, (hB.out.2.1.ext0 (hEd.trans hE5)).cell 0 rfl, (hB.out.2.1.ext0 (hEd.trans hE5)).cell 1 rfl⟩ | exact ⟨(hB.out.1.ext0 (hEd.trans (hE5.trans hE6))).cell 0 rfl, (hB.out.1.ext0 (hEd.trans (hE5.trans hE6))).cell 1 rfl, (hB.out.2.1.ext0 (hEd.trans (hE5.trans hE6))).cell 0 rfl, (hB.out.2.1.ext0 (hEd.trans (hE5.trans hE6))).cell 1 rfl⟩ | exact ⟨((hB.out.1.ext0 (hEd.trans (hE5.trans hE6))).ext (bb2.set2 _ _).2 (ob_other (by omega))).cell 0 rfl, ((hB.out.1.ext0 (hEd.trans (hE5.trans hE6))).ext (bb2.set2 _ _).2 (ob_other (by omega))).cell 1 rfl, ((hB.out.2.1.ext0 (hEd.trans (hE5.trans hE6))).ext (bb2.set2 _ _).2 (ob_other (by omega))).cell 0 rfl, ((hB.out.2.1.ext0 (hEd.trans (hE5.trans hE6))).ext (bb2.set2 _ _).2 (ob_other (by omega))).cell 1 rfl⟩ | go_keep)
        (first | (go_at_call 146; refine (nmul (X := hidB X b 3) (w := wc.drew) hXc hnx hny).mono ?_; rintro e w5 ⟨hE5, u5, rfl, hu5⟩) | (go_at_call 192; refine (isigned (hidB X b 3) w5 true u5 (x.natAbs * y.natAbs) (HX.ext (w := wc.drew) hXc hE5) hu5).mono ?_; rintro e w6 ⟨hE6, u6, rfl, s6, a6, c6, l6, rfl, h61, h62, h63⟩; have bb2 := hB.out.2.2.ext0 (hEd.trans (hE5.trans hE6)); have g1 := bb2.cell 0 rfl; have g2 := bb2.cell 1 rfl; have g3 := bb2.frozen 0; have g4 := bb2.frozen 1))
      obtain ⟨r1, r2⟩ := bb2.set2 (.bool s6) (.slice a6 l6.length c6)
      have h7 := (h63.mono (NatIn.mono _) (le_store r2 (by omega) (by omega))).mono (NatIn.mono _) le_unbox
      rw [hfin.out] at h62
      have hEf : Ext w _ := ExtX.box (hE1.trans (hEd.trans (hE5.trans hE6))) r2 (by omega)
      clear g1 g2 g3 g4 k00 k01 k10 k11
      go_wp2_with fail
      exact bodyPost_ret (results_box rfl rfl stInt r1 rfl) rfl ⟨hEf, _, rfl, s6, a6, c6, l6, rfl, h61, h62, h7⟩
    · obtain rfl : sn = true := hsn'.out.symm
      clear hsn'
      go_wp2_with fail
      go_region_held3 (fun w' => w'.cell? ⟨b, 0, none⟩ = some (.bool true) /\ w'.cell? ⟨b, 1, none⟩ = some (.slice a3 l3.length c3) /\ w'.cell? ⟨b + 1, 0, none⟩ = some (.bool false) /\ w'.cell? ⟨b + 1, 1, none⟩ = some (.slice a4 l4.length c4))
        (first | exact ⟨(hB.out.1.ext0 (hEd.trans hE5)).cell 0 rfl, (hB.out.1.ext0 (hEd.trans hE5)).cell 1 rfl, (hB.out.2.1.ext0 (hEd.trans hE5)).cell 0 rfl, (hB.out.2.1.ext0 (hEd.trans hE5)).cell 1 rfl⟩ | exact ⟨(hB.out.1.ext0 (hEd.trans (hE5.trans hE6))).cell 0 rfl, (hB.out.1.ext0 (hEd.trans (hE5.trans hE6))).cell 1 rfl, (hB.out.2.1.ext0 (hEd.trans (hE5.trans hE6))).cell 0 rfl, (hB.out.2.1.ext0 (hEd.trans (hE5.trans hE6))).cell 1 rfl⟩ | exact ⟨((hB.out.1.ext0 (hEd.trans (hE5.trans hE6))).ext (bb2.set2 _ _).2 (ob_other (by omega))).cell 0 rfl, ((hB.out.1.ext0 (hEd.trans (hE5.trans hE6))).ext (bb2.set2 _ _).2 (ob_other (by omega))).cell 1 rfl, ((hB.out.2.1.ext0 (hEd.trans (hE5.trans hE6))).ext (bb2.set2 _ _).2 (ob_other (by omega))).cell 0 rfl, ((hB.out.2.1.ext0 (hEd.trans (hE5.trans hE6))).ext (bb2.set2 _ _).2 (ob_other (by omega))).cell 1 rfl⟩ | go_keep)
        (first | (go_at_call 146; refine (nmul (X := hidB X b 3) (w := wc.drew) hXc hnx hny).mono ?_; rintro e w5 ⟨hE5, u5, rfl, hu5⟩) | (go_at_call 192; refine (isigned (hidB X b 3) w5 true u5 (x.natAbs * y.natAbs) (HX.ext (w := wc.drew) hXc hE5) hu5).mono ?_; rintro e w6 ⟨hE6, u6, rfl, s6, a6, c6, l6, rfl, h61, h62, h63⟩; have bb2 := hB.out.2.2.ext0 (hEd.trans (hE5.trans hE6)); have g1 := bb2.cell 0 rfl; have g2 := bb2.cell 1 rfl; have g3 := bb2.frozen 0; have g4 := bb2.frozen 1))
      obtain ⟨r1, r2⟩ := bb2.set2 (.bool s6) (.slice a6 l6.length c6)
      have h7 := (h63.mono (NatIn.mono _) (le_store r2 (by omega) (by omega))).mono (NatIn.mono _) le_unbox
      rw [hfin.out] at h62
      have hEf : Ext w _ := ExtX.box (hE1.trans (hEd.trans (hE5.trans hE6))) r2 (by omega)
      clear g1 g2 g3 g4 k00 k01 k10 k11
      go_wp2_with fail
      exact bodyPost_ret (results_box rfl rfl stInt r1 rfl) rfl ⟨hEf, _, rfl, s6, a6, c6, l6, rfl, h61, h62, h7⟩
    · obtain rfl : sn = false := hsn'.out.symm
      clear hsn'
      go_wp2_with fail
      go_region_held3 (fun w' => w'.cell? ⟨b, 0, none⟩ = some (.bool true) /\ w'.cell? ⟨b, 1, none⟩ = some (.slice a3 l3.length c3) /\ w'.cell? ⟨b + 1, 0, none⟩ = some (.bool true) /\ w'.cell? ⟨b + 1, 1, none⟩ = some (.slice a4 l4.length c4))
        (first | exact ⟨(hB.out.1.ext0 (hEd.trans hE5)).cell 0 rfl, (hB.out.1.ext0 (hEd.trans hE5)).cell 1 rfl, (hB.out.2.1.ext0 (hEd.trans hE5)).cell 0 rfl, (hB.out.2.1.ext0 (hEd.trans hE5)).cell 1 rfl⟩ | exact ⟨(hB.out.1.ext0 (hEd.trans (hE5.trans hE6))).cell 0 rfl, (hB.out.1.ext0 (hEd.trans (hE5.trans hE6))).cell 1 rfl, (hB.out.2.1.ext0 (hEd.trans (hE5.trans hE6))).cell 0 rfl, (hB.out.2.1.ext0 (hEd.trans (hE5.trans hE6))).cell 1 rfl⟩ | exact ⟨((hB.out.1.ext0 (hEd.trans (hE5.trans hE6))).ext (bb2.set2 _ _).2 (ob_other (by omega))).cell 0 rfl, ((hB.out.1.ext0 (hEd.trans (hE5.trans hE6))).ext (bb2.set2 _ _).2 (ob_other (by omega))).cell 1 rfl, ((hB.out.2.1.ext0 (hEd.trans (hE5.trans hE6))).ext (bb2.set2 _ _).2 (ob_other (by omega))).cell 0 rfl, ((hB.out.2.1.ext0 (hEd.trans (hE5.trans hE6))).ext (bb2.set2 _ _).2 (ob_other (by omega))).cell 1 rfl⟩ | go_keep)
        (first | (go_at_call 146; refine (nmul (X := hidB X b 3) (w := wc.drew) hXc hnx hny).mono ?_; rintro e w5 ⟨hE5, u5, rfl, hu5⟩) | (go_at_call 192; refine (isigned (hidB X b 3) w5 false u5 (x.natAbs * y.natAbs) (HX.ext (w := wc.drew) hXc hE5) hu5).mono ?_; rintro e w6 ⟨hE6, u6, rfl, s6, a6, c6, l6, rfl, h61, h62, h63⟩; have bb2 := hB.out.2.2.ext0 (hEd.trans (hE5.trans hE6)); have g1 := bb2.cell 0 rfl; have g2 := bb2.cell 1 rfl; have g3 := bb2.frozen 0; have g4 := bb2.frozen 1))
      obtain ⟨r1, r2⟩ := bb2.set2 (.bool s6) (.slice a6 l6.length c6)
      have h7 := (h63.mono (NatIn.mono _) (le_store r2 (by omega) (by omega))).mono (NatIn.mono _) le_unbox
      rw [hfin.out] at h62
      have hEf : Ext w _ := ExtX.box (hE1.trans (hEd.trans (hE5.trans hE6))) r2 (by omega)
      clear g1 g2 g3 g4 k00 k01 k10 k11
      go_wp2_with fail
      exact bodyPost_ret (results_box rfl rfl stInt r1 rfl) rfl ⟨hEf, _, rfl, s6, a6, c6, l6, rfl, h61, h62, h7⟩
theorem ineg (X : Nat -> Bool) (w : World) (u : Value) (x : Int) (hX : HX X w) (hu : ZV (mk X w) u x) : Calls Tryz.prog 194 #[u] w (ROut X w ZC (-x)) := by
  have hlx := hid hu.lg
  obtain ⟨s1, a1, c1, l1, rfl, hu'⟩ := id hu
  obtain ⟨W, hW, hE, b0, b1, hz⟩ := boxes2 w #[.bool s1, .slice a1 l1.length c1] #[.bool false, .slice none 0 0] 36 36
  have hXW : HX (hidB X w.heap.size 2) W := hX.boxes hz
  have hu1 := ZV.mono _ _ _ _ (le_boxes (nb := 2) hE) hu
  obtain ⟨b, hb⟩ : ∃ b, w.heap.size = b := ⟨_, rfl⟩
  have hbw : w.heap.size <= b := by omega
  rw [hb] at b0 b1 hz hXW hu1
  have k00 := b0.cell 0 rfl
  have k01 := b0.cell 1 rfl
  clear hu hu'
  go_enter Tryz.func194, Tryz.ntmps194
  go_wp2_with fail
  refine (ivalue (hidB X b 2) W _ x hXW hu1).mono ?_
  rintro e w5 ⟨hE5, u5, rfl, hu5⟩
  have hX5 := hXW.ext hE5
  clear k00 k01
  go_wp2_with fail
  refine (icopied (hidB X b 2) w5 _ x hX5 hu5 hlx.out).mono ?_
  rintro e w6 ⟨hE6, u6, rfl, s6, a6, c6, l6, rfl, h61, h62, h63⟩
  have bb0 := (b0.ext0 hE5).ext0 hE6
  have bb1 := (b1.ext0 hE5).ext0 hE6
  have hsz := hid (sg_of h62)
  go_wp2_with ((with_reducible show wpList _ _ _ (⟨_, .store _ _ _, _, _, _, _⟩ :: _) _ _); refine st_storeBox stInt rfl rfl bb0 rfl rfl (one2 _ _ _ _) ?_; intro w7 r1 r2; have k00 := r1.cell 0 rfl; have k01 := r1.cell 1 rfl)
  have hX7 := (hX5.ext hE6).ext r2
  have bb3 := bb1.ext r2 (ob_other (by omega))
  have hn : NC (mk (hidB X b 2) w7) (.slice a6 l6.length c6) x.natAbs := ⟨a6, c6, l6, rfl, h61, h62.2, h63.mono (NatIn.mono _) (le_store r2 (by omega) (by omega))⟩
  have hfin : Hid (sg (!s6) x.natAbs = -x) := hid (by
    have e1 := hsz.out
    rw [<- e1, sg_abs]; unfold sg; cases s6 <;> simp)
  refine (isigned (hidB X b 2) w7 (!s6) _ _ hX7 hn).mono ?_
  rintro e w8 ⟨hE8, u8, rfl, s8, a8, c8, l8, rfl, h81, h82, h83⟩
  rw [hfin.out] at h82
  have bb4 := bb3.ext0 hE8
  clear k00 k01
  go_wp2_with ((with_reducible show wpList _ _ _ (⟨_, .store _ _ _, _, _, _, _⟩ :: _) _ _); refine st_storeBox stInt rfl rfl bb4 rfl rfl (one2 _ _ _ _) ?_; intro w9 q1 q2)
  have h7 := (h83.mono (NatIn.mono _) (le_store q2 (by omega) (by omega))).mono (NatIn.mono _) le_unbox
  exact bodyPost_ret (results_box rfl rfl stInt q1 rfl) rfl ⟨ExtX.box ((ExtX.box (hE.trans (hE5.trans hE6)) r2 (by omega)).trans hE8) q2 (by omega), _, rfl, s8, a8, c8, l8, rfl, h81, h82, h7⟩
theorem isign (X : Nat -> Bool) (w : World) (u : Value) (x : Int) (hX : HX X w) (hu : ZV (mk X w) u x) : Calls Tryz.prog 176 #[u] w (IntOut w x.sign) := by
  obtain ⟨s1, a1, c1, l1, rfl, hu'⟩ := id hu
  obtain ⟨W, hW, hE, b0, hz⟩ := boxes1 w #[.bool s1, .slice a1 l1.length c1] 36
  have hXW : HX (hidB X w.heap.size 1) W := hX.boxes hz
  have hu1 := ZV.mono _ _ _ _ (le_boxes (nb := 1) hE) hu
  obtain ⟨b, hb⟩ : ∃ b, w.heap.size = b := ⟨_, rfl⟩
  have hbw : w.heap.size <= b := by omega
  rw [hb] at b0 hz hXW hu1
  have k00 := b0.cell 0 rfl
  have k01 := b0.cell 1 rfl
  clear hu hu'
  go_enter Tryz.func176, Tryz.ntmps176
  go_wp2_with fail
  refine (ivalue (hidB X b 1) W _ x hXW hu1).mono ?_
  rintro e w5 ⟨hE5, u5, rfl, s6, a6, c6, l6, rfl, h61, h62, h63⟩
  have bb0 := b0.ext0 hE5
  have hl0 := hid h62.len0
  have hs6 := hid h62.1
  clear k00 k01 h62
  by_cases h0 : l6.length = 0
  · have hx0 : x = 0 := hl0.out.1 h0
    subst hx0
    have hI : ((l6.length : Int) == 0) = true := beqT (by omega)
    have hl6 : (l6.length : Int) = 0 := by omega
    clear hl0 hs6 h0
    go_wp2_with ((with_reducible show wpList _ _ _ (⟨_, .store _ _ _, _, _, _, _⟩ :: _) _ _); refine st_storeBox stInt rfl rfl bb0 rfl rfl (one2 _ _ _ _) ?_; intro w7 r1 r2; have k00 := r1.cell 0 rfl; have k01 := r1.cell 1 rfl)
    have hEf := ExtX.box (hE.trans hE5) r2 (by omega)
    go_ret
    exact ⟨hEf, rfl⟩
  · have hI : ((l6.length : Int) == 0) = false := beqF (by omega)
    have hx0 : ¬ x = 0 := fun h => h0 (hl0.out.2 h)
    by_cases hneg : x < 0
    · have hf : Hid (x.sign = -1) := hid (Int.sign_eq_neg_one_of_neg hneg)
      obtain rfl : s6 = true := by rw [hs6.out]; exact decide_eq_true hneg
      clear hl0 h0 hx0 hneg hs6
      go_wp2_with ((with_reducible show wpList _ _ _ (⟨_, .store _ _ _, _, _, _, _⟩ :: _) _ _); refine st_storeBox stInt rfl rfl bb0 rfl rfl (one2 _ _ _ _) ?_; intro w7 r1 r2; have k00 := r1.cell 0 rfl; have k01 := r1.cell 1 rfl)
      have hEf := ExtX.box (hE.trans hE5) r2 (by omega)
      go_ret
      exact ⟨hEf, ret_int hf.out.symm⟩
    · have hf : Hid (x.sign = 1) := hid (Int.sign_eq_one_of_pos (by omega))
      obtain rfl : s6 = false := by rw [hs6.out]; exact decide_eq_false hneg
      clear hl0 h0 hx0 hneg hs6
      go_wp2_with ((with_reducible show wpList _ _ _ (⟨_, .store _ _ _, _, _, _, _⟩ :: _) _ _); refine st_storeBox stInt rfl rfl bb0 rfl rfl (one2 _ _ _ _) ?_; intro w7 r1 r2; have k00 := r1.cell 0 rfl; have k01 := r1.cell 1 rfl)
      have hEf := ExtX.box (hE.trans hE5) r2 (by omega)
      go_ret
      exact ⟨hEf, ret_int hf.out.symm⟩
end Go.Proofs.YtgimdkjgaemcbaaGreat
namespace Go.Proofs.YtgimdkjgaemcbaaGreat
open Go.RowKit Go.Rep Go.Lim
set_option maxRecDepth 100000 in
set_option maxHeartbeats 800000 in
theorem rimul (X : Nat -> Bool) (w : World) (u v : Value) (x y : Int) (hX : HX X w) (hu : ZV (mk X w) u x) (hv : ZV (mk X w) v y) (hbx : lg x.natAbs <= 274877906944) (hby : lg y.natAbs <= 274877906944) : Calls Tryz.prog 110 #[u, v] w (ROut X w ZC (x * y)) := by
  have hbx' := hid hbx
  have hby' := hid hby
  clear hbx hby
  have hlx := hid hu.lg
  have hly := hid hv.lg
  obtain ⟨s1, a1, c1, l1, rfl, hu'⟩ := id hu
  obtain ⟨s2, a2, c2, l2, rfl, hv'⟩ := id hv
  obtain ⟨W, hW, hE, b0, b1, b2, hz⟩ := boxes3 w #[.bool s1, .slice a1 l1.length c1] #[.bool s2, .slice a2 l2.length c2] #[.bool false, .slice none 0 0] 36 36 36
  have hXW : HX (hidB X w.heap.size 3) W := hX.boxes hz
  have hu1 := ZV.mono _ _ _ _ (le_boxes (nb := 3) hE) hu
  have hv1 := ZV.mono _ _ _ _ (le_boxes (nb := 3) hE) hv
  obtain ⟨b, hb⟩ : ∃ b, w.heap.size = b := ⟨_, rfl⟩
  have hbw : w.heap.size <= b := by omega
  rw [hb] at b0 b1 b2 hz hXW hu1 hv1
  have hEd : Ext W W.drew := (ExtX.refl W).drew
  have hXd : HX (hidB X b 3) W.drew := hXW
  have hud : ZV (mk (hidB X b 3) W.drew) (.agg #[.bool s1, .slice a1 l1.length c1]) x := hu1
  have hvd : ZV (mk (hidB X b 3) W.drew) (.agg #[.bool s2, .slice a2 l2.length c2]) y := hv1
  have k00 := b0.cell 0 rfl
  have k01 := b0.cell 1 rfl
  have k10 := b1.cell 0 rfl
  have k11 := b1.cell 1 rfl
  clear hu hv hu' hv'
  go_enter Tryz.func110, Tryz.ntmps110
  go_upto_region 1 with (fail)
  go_cut [] from 5 to 8 (fun wx => ∃ s3 a3 c3 l3 s4 a4 c4 l4, Bx wx b #[.bool s3, .slice a3 l3 c3] 36 /\ Bx wx (b + 1) #[.bool s4, .slice a4 l4 c4] 36 /\ Bx wx (b + 1 + 1) #[.bool false, .slice none 0 0] 36 /\ ZC (mk (hidB X b 3) wx) (.agg #[.bool s3, .slice a3 l3 c3]) x /\ ZC (mk (hidB X b 3) wx) (.agg #[.bool s4, .slice a4 l4 c4]) y /\ Ext w wx)
  case first =>
    go_region_with (first | (go_at_call 153; (with_reducible refine (ritake (hidB X b 3) W.drew _ x hXd hud).mono ?_); rintro e w5 ⟨hE5, u5, rfl, s5, a5, c5, l5, rfl, h51, h52, h53⟩; have bb0 := b0.ext0 (hEd.trans hE5); have bb1 := b1.ext0 (hEd.trans hE5); have e00 := bb0.cell 0 rfl; have e01 := bb0.cell 1 rfl; have e10 := bb1.cell 0 rfl; have e11 := bb1.cell 1 rfl) | (go_at_call 153; (with_reducible refine (ritake (hidB X b 3) w5 _ y (HX.ext hXd hE5) (mkx ZV.mono hvd hE5)).mono ?_); rintro e w6 ⟨hE6, u6, rfl, s6, a6, c6, l6, rfl, h61, h62, h63⟩; have bb2 := bb0.ext0 hE6; have bb3 := bb1.ext0 hE6; have g00 := bb2.cell 0 rfl; have g01 := bb2.cell 1 rfl; have g10 := bb3.cell 0 rfl; have g11 := bb3.cell 1 rfl; have fr0 := bb2.frozen 0; have fr1 := bb2.frozen 1; have fr2 := bb3.frozen 0; have fr3 := bb3.frozen 1))
    all_goals
      obtain ⟨wf, hwf, q0, q1, q2, q3, q4⟩ := two_stores (X := X) (nb := 3) bb2 bb3 (hE.trans ((hEd.trans hE5).trans hE6)) hbw (by omega) (.bool s5) (.slice a5 l5.length c5) (.bool s6) (.slice a6 l6.length c6)
      rw [hwf]
      have hfx : ZC (mk (hidB X b 3) wf) (.agg #[.bool s5, .slice a5 l5.length c5]) x := ⟨s5, a5, c5, l5, rfl, h51, h52, (h53.mono (NatIn.mono _) (mk_ext hE6)).mono (NatIn.mono _) q4⟩
      have hfy : ZC (mk (hidB X b 3) wf) (.agg #[.bool s6, .slice a6 l6.length c6]) y := ⟨s6, a6, c6, l6, rfl, h61, h62, h63.mono (NatIn.mono _) q4⟩
      have q5 := q2 (b + 1 + 1) _ _ (by omega) (by omega) ((b2.ext0 (hEd.trans hE5)).ext0 hE6)
      clear e00 e01 e10 e11 g00 g01 g10 g11 fr0 fr1 fr2 fr3 k00 k01 k10 k11 hwf
      go_wp2_with fail
      go_meet
      exact ⟨_, _, _, _, _, _, _, _, q0, q1, q5, hfx, hfy, q3⟩
  case rest =>
    clear k00 k01 k10 k11 b0 b1 b2 hu1 hv1 hud hvd hXd hEd hW
    obtain ⟨s3, a3, c3, n3, s4, a4, c4, n4, b0, b1, b2, hx, hy, hE1⟩ := hcut
    obtain ⟨_, _, _, l3, heq, h31, h32, h33⟩ := hx
    simp only [Value.agg.injEq, Array.mk.injEq, List.cons.injEq, Value.bool.injEq, Value.slice.injEq, and_true] at heq
    obtain ⟨rfl, rfl, rfl, rfl⟩ := heq
    obtain ⟨_, _, _, l4, heq, h41, h42, h43⟩ := hy
    simp only [Value.agg.injEq, Array.mk.injEq, List.cons.injEq, Value.bool.injEq, Value.slice.injEq, and_true] at heq
    obtain ⟨rfl, rfl, rfl, rfl⟩ := heq
    have hlz := hid (sg_of h32)
    have hlw := hid (sg_of h42)
    have hsx := hid h32.1
    have hsy := hid h42.1
    have hEd : Ext wc wc.drew := (ExtX.refl wc).drew
    have hnx : NV (mk (hidB X b 3) wc) (.slice a3 l3.length c3) x.natAbs := NC.nv ⟨a3, c3, l3, rfl, h31, h32.2, h33⟩ (by have := hlx.out; omega)
    have hny : NV (mk (hidB X b 3) wc) (.slice a4 l4.length c4) y.natAbs := NC.nv ⟨a4, c4, l4, rfl, h41, h42.2, h43⟩ (by have := hly.out; omega)
    have hzz : w.heap.size + 3 <= wc.heap.size := by have := b2.lt; omega
    have hXc : HX (hidB X b 3) wc := hX.boxes' hE1 (by omega) hzz
    have hB := hid (And.intro b0 (And.intro b1 b2))
    have k00 := b0.cell 0 rfl
    have k01 := b0.cell 1 rfl
    have k10 := b1.cell 0 rfl
    have k11 := b1.cell 1 rfl
    have hn1 : b + 1 ≠ b + 1 + 1 := by omega
    have hn2 : b ≠ b + 1 + 1 := by omega
    obtain ⟨sn, hsn⟩ : ∃ sn, (s3 != s4) = sn := ⟨_, rfl⟩
    have hfin : Hid (sg sn (x.natAbs * y.natAbs) = x * y) := hid (by
      have e1 := hlz.out; have e2 := hlw.out
      rw [<- hsn, <- e1, <- e2, sg_abs, sg_abs]
      unfold sg
      cases s3 <;> cases s4 <;> simp [Int.natCast_mul, Int.neg_mul, Int.mul_neg])
    have hsn' := hid hsn
    clear hsx hsy hlz hlw hsn h32 h42
    cases s3 <;> cases s4
    · obtain rfl : sn = false := hsn'.out.symm
      clear hsn'
      go_wp2_with fail
      go_region_held3 (fun w' => w'.cell? ⟨b, 0, none⟩ = some (.bool false) /\ w'.cell? ⟨b, 1, none⟩ = some (.slice a3 l3.length c3) /\ w'.cell? ⟨b + 1, 0, none⟩ = some (.bool false) /\ w'.cell? ⟨b + 1, 1, none⟩ = some (.slice a4 l4.length c4))
        (first | exact ⟨(hB.out.1.ext0 (hEd.trans hE5)).cell 0 rfl, (hB.out.1.ext0 (hEd.trans hE5)).cell 1 rfl, (hB.out.2.1.ext0 (hEd.trans hE5)).cell 0 rfl, (hB.out.2.1.ext0 (hEd.trans hE5)).cell 1 rfl⟩ | exact ⟨(hB.out.1.ext0 (hEd.trans (hE5.trans hE6))).cell 0 rfl, (hB.out.1.ext0 (hEd.trans (hE5.trans hE6))).cell 1 rfl, (hB.out.2.1.ext0 (hEd.trans (hE5.trans hE6))).cell 0 rfl, (hB.out.2.1.ext0 (hEd.trans (hE5.trans hE6))).cell 1 rfl⟩ | exact ⟨((hB.out.1.ext0 (hEd.trans (hE5.trans hE6))).ext (bb2.set2 _ _).2 (ob_other (by omega))).cell 0 rfl, ((hB.out.1.ext0 (hEd.trans (hE5.trans hE6))).ext (bb2.set2 _ _).2 (ob_other (by omega))).cell 1 rfl, ((hB.out.2.1.ext0 (hEd.trans (hE5.trans hE6))).ext (bb2.set2 _ _).2 (ob_other (by omega))).cell 0 rfl, ((hB.out.2.1.ext0 (hEd.trans (hE5.trans hE6))).ext (bb2.set2 _ _).2 (ob_other (by omega))).cell 1 rfl⟩ | go_keep)
        (first | (go_at_call 171; refine (rnmul (hidB X b 3) wc.drew _ _ _ _ hXc hnx hny hbx'.out hby'.out).mono ?_; rintro e w5 ⟨hE5, u5, rfl, hu5⟩) | (go_at_call 150; refine (risigned (hidB X b 3) w5 false u5 (x.natAbs * y.natAbs) (HX.ext (w := wc.drew) hXc hE5) hu5).mono ?_; rintro e w6 ⟨hE6, u6, rfl, s6, a6, c6, l6, rfl, h61, h62, h63⟩; have bb2 := hB.out.2.2.ext0 (hEd.trans (hE5.trans hE6)); have g1 := bb2.cell 0 rfl; have g2 := bb2.cell 1 rfl; have g3 := bb2.frozen 0; have g4 := bb2.frozen 1))
      obtain ⟨r1, r2⟩ := bb2.set2 (.bool s6) (.slice a6 l6.length c6)
      have h7 := (h63.mono (NatIn.mono _) (le_store r2 (by omega) (by omega))).mono (NatIn.mono _) le_unbox
      rw [hfin.out] at h62
      have hEf : Ext w _ := ExtX.box (hE1.trans (hEd.trans (hE5.trans hE6))) r2 (by omega)
      clear g1 g2 g3 g4 k00 k01 k10 k11
      go_wp2_with fail
      exact bodyPost_ret (results_box rfl rfl stInt r1 rfl) rfl ⟨hEf, _, rfl, s6, a6, c6, l6, rfl, h61, h62, h7⟩
    · obtain rfl : sn = true := hsn'.out.symm
      clear hsn'
      go_wp2_with fail
      go_region_held3 (fun w' => w'.cell? ⟨b, 0, none⟩ = some (.bool false) /\ w'.cell? ⟨b, 1, none⟩ = some (.slice a3 l3.length c3) /\ w'.cell? ⟨b + 1, 0, none⟩ = some (.bool true) /\ w'.cell? ⟨b + 1, 1, none⟩ = some (.slice a4 l4.length c4))
        (first | exact ⟨(hB.out.1.ext0 (hEd.trans hE5)).cell 0 rfl, (hB.out.1.ext0 (hEd.trans hE5)).cell 1 rfl, (hB.out.2.1.ext0 (hEd.trans hE5)).cell 0 rfl, (hB.out.2.1.ext0 (hEd.trans hE5)).cell 1 rfl⟩ | exact ⟨(hB.out.1.ext0 (hEd.trans (hE5.trans hE6))).cell 0 rfl, (hB.out.1.ext0 (hEd.trans (hE5.trans hE6))).cell 1 rfl, (hB.out.2.1.ext0 (hEd.trans (hE5.trans hE6))).cell 0 rfl, (hB.out.2.1.ext0 (hEd.trans (hE5.trans hE6))).cell 1 rfl⟩ | exact ⟨((hB.out.1.ext0 (hEd.trans (hE5.trans hE6))).ext (bb2.set2 _ _).2 (ob_other (by omega))).cell 0 rfl, ((hB.out.1.ext0 (hEd.trans (hE5.trans hE6))).ext (bb2.set2 _ _).2 (ob_other (by omega))).cell 1 rfl, ((hB.out.2.1.ext0 (hEd.trans (hE5.trans hE6))).ext (bb2.set2 _ _).2 (ob_other (by omega))).cell 0 rfl, ((hB.out.2.1.ext0 (hEd.trans (hE5.trans hE6))).ext (bb2.set2 _ _).2 (ob_other (by omega))).cell 1 rfl⟩ | go_keep)
        (first | (go_at_call 171; refine (rnmul (hidB X b 3) wc.drew _ _ _ _ hXc hnx hny hbx'.out hby'.out).mono ?_; rintro e w5 ⟨hE5, u5, rfl, hu5⟩) | (go_at_call 150; refine (risigned (hidB X b 3) w5 true u5 (x.natAbs * y.natAbs) (HX.ext (w := wc.drew) hXc hE5) hu5).mono ?_; rintro e w6 ⟨hE6, u6, rfl, s6, a6, c6, l6, rfl, h61, h62, h63⟩; have bb2 := hB.out.2.2.ext0 (hEd.trans (hE5.trans hE6)); have g1 := bb2.cell 0 rfl; have g2 := bb2.cell 1 rfl; have g3 := bb2.frozen 0; have g4 := bb2.frozen 1))
      obtain ⟨r1, r2⟩ := bb2.set2 (.bool s6) (.slice a6 l6.length c6)
      have h7 := (h63.mono (NatIn.mono _) (le_store r2 (by omega) (by omega))).mono (NatIn.mono _) le_unbox
      rw [hfin.out] at h62
      have hEf : Ext w _ := ExtX.box (hE1.trans (hEd.trans (hE5.trans hE6))) r2 (by omega)
      clear g1 g2 g3 g4 k00 k01 k10 k11
      go_wp2_with fail
      exact bodyPost_ret (results_box rfl rfl stInt r1 rfl) rfl ⟨hEf, _, rfl, s6, a6, c6, l6, rfl, h61, h62, h7⟩
    · obtain rfl : sn = true := hsn'.out.symm
      clear hsn'
      go_wp2_with fail
      go_region_held3 (fun w' => w'.cell? ⟨b, 0, none⟩ = some (.bool true) /\ w'.cell? ⟨b, 1, none⟩ = some (.slice a3 l3.length c3) /\ w'.cell? ⟨b + 1, 0, none⟩ = some (.bool false) /\ w'.cell? ⟨b + 1, 1, none⟩ = some (.slice a4 l4.length c4))
        (first | exact ⟨(hB.out.1.ext0 (hEd.trans hE5)).cell 0 rfl, (hB.out.1.ext0 (hEd.trans hE5)).cell 1 rfl, (hB.out.2.1.ext0 (hEd.trans hE5)).cell 0 rfl, (hB.out.2.1.ext0 (hEd.trans hE5)).cell 1 rfl⟩ | exact ⟨(hB.out.1.ext0 (hEd.trans (hE5.trans hE6))).cell 0 rfl, (hB.out.1.ext0 (hEd.trans (hE5.trans hE6))).cell 1 rfl, (hB.out.2.1.ext0 (hEd.trans (hE5.trans hE6))).cell 0 rfl, (hB.out.2.1.ext0 (hEd.trans (hE5.trans hE6))).cell 1 rfl⟩ | exact ⟨((hB.out.1.ext0 (hEd.trans (hE5.trans hE6))).ext (bb2.set2 _ _).2 (ob_other (by omega))).cell 0 rfl, ((hB.out.1.ext0 (hEd.trans (hE5.trans hE6))).ext (bb2.set2 _ _).2 (ob_other (by omega))).cell 1 rfl, ((hB.out.2.1.ext0 (hEd.trans (hE5.trans hE6))).ext (bb2.set2 _ _).2 (ob_other (by omega))).cell 0 rfl, ((hB.out.2.1.ext0 (hEd.trans (hE5.trans hE6))).ext (bb2.set2 _ _).2 (ob_other (by omega))).cell 1 rfl⟩ | go_keep)
        (first | (go_at_call 171; refine (rnmul (hidB X b 3) wc.drew _ _ _ _ hXc hnx hny hbx'.out hby'.out).mono ?_; rintro e w5 ⟨hE5, u5, rfl, hu5⟩) | (go_at_call 150; refine (risigned (hidB X b 3) w5 true u5 (x.natAbs * y.natAbs) (HX.ext (w := wc.drew) hXc hE5) hu5).mono ?_; rintro e w6 ⟨hE6, u6, rfl, s6, a6, c6, l6, rfl, h61, h62, h63⟩; have bb2 := hB.out.2.2.ext0 (hEd.trans (hE5.trans hE6)); have g1 := bb2.cell 0 rfl; have g2 := bb2.cell 1 rfl; have g3 := bb2.frozen 0; have g4 := bb2.frozen 1))
      obtain ⟨r1, r2⟩ := bb2.set2 (.bool s6) (.slice a6 l6.length c6)
      have h7 := (h63.mono (NatIn.mono _) (le_store r2 (by omega) (by omega))).mono (NatIn.mono _) le_unbox
      rw [hfin.out] at h62
      have hEf : Ext w _ := ExtX.box (hE1.trans (hEd.trans (hE5.trans hE6))) r2 (by omega)
      clear g1 g2 g3 g4 k00 k01 k10 k11
      go_wp2_with fail
      exact bodyPost_ret (results_box rfl rfl stInt r1 rfl) rfl ⟨hEf, _, rfl, s6, a6, c6, l6, rfl, h61, h62, h7⟩
    · obtain rfl : sn = false := hsn'.out.symm
      clear hsn'
      go_wp2_with fail
      go_region_held3 (fun w' => w'.cell? ⟨b, 0, none⟩ = some (.bool true) /\ w'.cell? ⟨b, 1, none⟩ = some (.slice a3 l3.length c3) /\ w'.cell? ⟨b + 1, 0, none⟩ = some (.bool true) /\ w'.cell? ⟨b + 1, 1, none⟩ = some (.slice a4 l4.length c4))
        (first | exact ⟨(hB.out.1.ext0 (hEd.trans hE5)).cell 0 rfl, (hB.out.1.ext0 (hEd.trans hE5)).cell 1 rfl, (hB.out.2.1.ext0 (hEd.trans hE5)).cell 0 rfl, (hB.out.2.1.ext0 (hEd.trans hE5)).cell 1 rfl⟩ | exact ⟨(hB.out.1.ext0 (hEd.trans (hE5.trans hE6))).cell 0 rfl, (hB.out.1.ext0 (hEd.trans (hE5.trans hE6))).cell 1 rfl, (hB.out.2.1.ext0 (hEd.trans (hE5.trans hE6))).cell 0 rfl, (hB.out.2.1.ext0 (hEd.trans (hE5.trans hE6))).cell 1 rfl⟩ | exact ⟨((hB.out.1.ext0 (hEd.trans (hE5.trans hE6))).ext (bb2.set2 _ _).2 (ob_other (by omega))).cell 0 rfl, ((hB.out.1.ext0 (hEd.trans (hE5.trans hE6))).ext (bb2.set2 _ _).2 (ob_other (by omega))).cell 1 rfl, ((hB.out.2.1.ext0 (hEd.trans (hE5.trans hE6))).ext (bb2.set2 _ _).2 (ob_other (by omega))).cell 0 rfl, ((hB.out.2.1.ext0 (hEd.trans (hE5.trans hE6))).ext (bb2.set2 _ _).2 (ob_other (by omega))).cell 1 rfl⟩ | go_keep)
        (first | (go_at_call 171; refine (rnmul (hidB X b 3) wc.drew _ _ _ _ hXc hnx hny hbx'.out hby'.out).mono ?_; rintro e w5 ⟨hE5, u5, rfl, hu5⟩) | (go_at_call 150; refine (risigned (hidB X b 3) w5 false u5 (x.natAbs * y.natAbs) (HX.ext (w := wc.drew) hXc hE5) hu5).mono ?_; rintro e w6 ⟨hE6, u6, rfl, s6, a6, c6, l6, rfl, h61, h62, h63⟩; have bb2 := hB.out.2.2.ext0 (hEd.trans (hE5.trans hE6)); have g1 := bb2.cell 0 rfl; have g2 := bb2.cell 1 rfl; have g3 := bb2.frozen 0; have g4 := bb2.frozen 1))
      obtain ⟨r1, r2⟩ := bb2.set2 (.bool s6) (.slice a6 l6.length c6)
      have h7 := (h63.mono (NatIn.mono _) (le_store r2 (by omega) (by omega))).mono (NatIn.mono _) le_unbox
      rw [hfin.out] at h62
      have hEf : Ext w _ := ExtX.box (hE1.trans (hEd.trans (hE5.trans hE6))) r2 (by omega)
      clear g1 g2 g3 g4 k00 k01 k10 k11
      go_wp2_with fail
      exact bodyPost_ret (results_box rfl rfl stInt r1 rfl) rfl ⟨hEf, _, rfl, s6, a6, c6, l6, rfl, h61, h62, h7⟩
end Go.Proofs.YtgimdkjgaemcbaaGreat
namespace Go.Proofs.YtgimdkjgaemcbaaGreat
open Go.RowKit Go.Rep Go.Lim
def BOut (w : World) (b : Bool) (e : Ending) (w' : World) : Prop := Ext w w' /\ e = .returned (.bool b)
theorem rineg (X : Nat -> Bool) (w : World) (u : Value) (x : Int) (hX : HX X w) (hu : ZV (mk X w) u x) : Calls Tryz.prog 117 #[u] w (ROut X w ZC (-x)) := by
  obtain ⟨s1, a1, c1, l1, rfl, hu'⟩ := id hu
  obtain ⟨W, hW, hE, b0, b1, hz⟩ := boxes2 w #[.bool s1, .slice a1 l1.length c1] #[.bool false, .slice none 0 0] 36 36
  have hXW : HX (hidB X w.heap.size 2) W := hX.boxes hz
  have hu1 := ZV.mono _ _ _ _ (le_boxes (nb := 2) hE) hu
  obtain ⟨b, hb⟩ : ∃ b, w.heap.size = b := ⟨_, rfl⟩
  have hbw : w.heap.size <= b := by omega
  rw [hb] at b0 b1 hz hXW hu1
  have k00 := b0.cell 0 rfl
  have k01 := b0.cell 1 rfl
  clear hu hu'
  go_enter Tryz.func117, Tryz.ntmps117
  go_wp2_with fail
  refine (ritake (hidB X b 2) W _ x hXW hu1).mono ?_
  rintro e w6 ⟨hE6, u6, rfl, s6, a6, c6, l6, rfl, h61, h62, h63⟩
  have hX6 := hXW.ext hE6
  have bb0 := b0.ext0 hE6
  have bb1 := b1.ext0 hE6
  have hsz := hid (sg_of h62)
  clear k00 k01
  go_wp2_with ((with_reducible show wpList _ _ _ (⟨_, .store _ _ _, _, _, _, _⟩ :: _) _ _); refine st_storeBox stInt rfl rfl bb0 rfl rfl (one2 _ _ _ _) ?_; intro w7 r1 r2; have k00 := r1.cell 0 rfl; have k01 := r1.cell 1 rfl)
  have hX7 := hX6.ext r2
  have bb3 := bb1.ext r2 (ob_other (by omega))
  have hn : NC (mk (hidB X b 2) w7) (.slice a6 l6.length c6) x.natAbs := ⟨a6, c6, l6, rfl, h61, h62.2, h63.mono (NatIn.mono _) (le_store r2 (by omega) (by omega))⟩
  have hfin : Hid (sg (!s6) x.natAbs = -x) := hid (by
    have e1 := hsz.out
    rw [<- e1, sg_abs]; unfold sg; cases s6 <;> simp)
  refine (risigned (hidB X b 2) w7 (!s6) _ _ hX7 hn).mono ?_
  rintro e w8 ⟨hE8, u8, rfl, s8, a8, c8, l8, rfl, h81, h82, h83⟩
  rw [hfin.out] at h82
  have bb4 := bb3.ext0 hE8
  clear k00 k01
  go_wp2_with ((with_reducible show wpList _ _ _ (⟨_, .store _ _ _, _, _, _, _⟩ :: _) _ _); refine st_storeBox stInt rfl rfl bb4 rfl rfl (one2 _ _ _ _) ?_; intro w9 q1 q2)
  have h7 := (h83.mono (NatIn.mono _) (le_store q2 (by omega) (by omega))).mono (NatIn.mono _) le_unbox
  exact bodyPost_ret (results_box rfl rfl stInt q1 rfl) rfl ⟨ExtX.box ((ExtX.box (hE.trans hE6) r2 (by omega)).trans hE8) q2 (by omega), _, rfl, s8, a8, c8, l8, rfl, h81, h82, h7⟩
theorem risign (X : Nat -> Bool) (w : World) (u : Value) (x : Int) (hX : HX X w) (hu : ZV (mk X w) u x) : Calls Tryz.prog 84 #[u] w (IntOut w x.sign) := by
  obtain ⟨s1, a1, c1, l1, rfl, hu'⟩ := id hu
  obtain ⟨W, hW, hE, b0, hz⟩ := boxes1 w #[.bool s1, .slice a1 l1.length c1] 36
  have hXW : HX (hidB X w.heap.size 1) W := hX.boxes hz
  have hu1 := ZV.mono _ _ _ _ (le_boxes (nb := 1) hE) hu
  obtain ⟨b, hb⟩ : ∃ b, w.heap.size = b := ⟨_, rfl⟩
  have hbw : w.heap.size <= b := by omega
  rw [hb] at b0 hz hXW hu1
  have k00 := b0.cell 0 rfl
  have k01 := b0.cell 1 rfl
  clear hu hu'
  go_enter Tryz.func84, Tryz.ntmps84
  go_wp2_with fail
  refine (ritake (hidB X b 1) W _ x hXW hu1).mono ?_
  rintro e w5 ⟨hE5, u5, rfl, s6, a6, c6, l6, rfl, h61, h62, h63⟩
  have bb0 := b0.ext0 hE5
  have hl0 := hid h62.len0
  have hs6 := hid h62.1
  clear k00 k01 h62
  by_cases hneg : x < 0
  · have hf : Hid (x.sign = -1) := hid (Int.sign_eq_neg_one_of_neg hneg)
    obtain rfl : s6 = true := by rw [hs6.out]; exact decide_eq_true hneg
    clear hl0 hneg hs6
    go_wp2_with ((with_reducible show wpList _ _ _ (⟨_, .store _ _ _, _, _, _, _⟩ :: _) _ _); refine st_storeBox stInt rfl rfl bb0 rfl rfl (one2 _ _ _ _) ?_; intro w7 r1 r2; have k00 := r1.cell 0 rfl; have k01 := r1.cell 1 rfl)
    have hEf := ExtX.box (hE.trans hE5) r2 (by omega)
    go_ret
    exact ⟨hEf, ret_int hf.out.symm⟩
  · obtain rfl : s6 = false := by rw [hs6.out]; exact decide_eq_false hneg
    by_cases h0 : l6.length = 0
    · have hx0 : x = 0 := hl0.out.1 h0
      subst hx0
      obtain rfl : l6 = [] := List.eq_nil_of_length_eq_zero h0
      clear hl0 hs6 h0 hneg
      simp only [List.length_nil] at h61 |-
      go_wp2_with ((with_reducible show wpList _ _ _ (⟨_, .store _ _ _, _, _, _, _⟩ :: _) _ _); refine st_storeBox stInt rfl rfl bb0 rfl rfl (one2 _ _ _ _) ?_; intro w7 r1 r2; have k00 := r1.cell 0 rfl; have k01 := r1.cell 1 rfl)
      have hEf := ExtX.box (hE.trans hE5) r2 (by omega)
      go_ret
      exact ⟨hEf, rfl⟩
    · have hx0 : ¬ x = 0 := fun h => h0 (hl0.out.2 h)
      have hp : 0 < l6.length := by omega
      have hf : Hid (x.sign = 1) := hid (Int.sign_eq_one_of_pos (by omega))
      clear hl0 hx0 hneg hs6 h0
      go_wp2_with ((with_reducible show wpList _ _ _ (⟨_, .store _ _ _, _, _, _, _⟩ :: _) _ _); refine st_storeBox stInt rfl rfl bb0 rfl rfl (one2 _ _ _ _) ?_; intro w7 r1 r2; have k00 := r1.cell 0 rfl; have k01 := r1.cell 1 rfl)
      have hEf := ExtX.box (hE.trans hE5) r2 (by omega)
      go_ret
      exact ⟨hEf, ret_int hf.out.symm⟩
theorem rifrom (X : Nat -> Bool) (w : World) (v : Int) (hX : HX X w) (h1 : -9223372036854775808 <= v) (h2 : v <= 9223372036854775807) : Calls Tryz.prog 81 #[.int .i64 v] w (ROut X w ZC v) := by
  obtain ⟨W, hW, hE, b0, hz⟩ := boxes1 w #[.bool false, .slice none 0 0] 36
  have hXW : HX (hidB X w.heap.size 1) W := hX.boxes hz
  obtain ⟨b, hb⟩ : ∃ b, w.heap.size = b := ⟨_, rfl⟩
  have hbw : w.heap.size <= b := by omega
  rw [hb] at b0 hz hXW
  by_cases hv : v < 0
  · obtain ⟨n, hn⟩ : ∃ n : Nat, -(v + 1) = n := Int.eq_ofNat_of_zero_le (by omega)
    have hnn : Hid (sg true (n + 1) = v) := hid (by unfold sg; simp; omega)
    have hvv : Hid (-(v + 1) = (n : Int)) := hid hn
    have hnl : Hid (n < 18446744073709551616) := hid (by omega)
    have hnI : (n : Int) <= 9223372036854775807 := by omega
    clear hn
    go_enter Tryz.func81, Tryz.ntmps81
    go_wp2_with fail
    rw [hvv.out]
    refine (rnfrom (X := hidB X b 1) hXW hnl.out).mono ?_
    rintro e w5 ⟨hE5, u5, rfl, hu5⟩
    have hX5 := hXW.ext hE5
    go_wp2_with fail
    have hone := NC.lit hX5 1 144 (by omega) (by omega)
    have hE6 : Ext w5 (w5.alloc (.cells #[.int .u32 ((1 : Nat) : Int)] 144)) := (ExtX.refl w5).alloc _
    have hl1 : lg n <= 1099511627776 := by
      have : n < B ^ 2 := by rw [B_eq]; omega
      have := lg_le.2 this; omega
    refine (rnadd (hX5.ext hE6) (mkx NV.mono (hu5.nv hl1) hE6) (hone.nv (by rw [lg_one]; decide))).mono ?_
    rintro e w7 ⟨hE7, u7, rfl, hu7⟩
    have hE57 := hE5.trans (hE6.trans hE7)
    have hX7 := hXW.ext hE57
    clear hE5 hE6 hE7 hX5 hone hu5 hl1
    go_wp2_with fail
    refine (risigned (hidB X b 1) w7 true u7 _ hX7 hu7).mono ?_
    rintro e w8 ⟨hE8, u6, rfl, s6, a6, c6, l6, rfl, h61, h62, h63⟩
    rw [hnn.out] at h62
    have bb0 := (b0.ext0 hE57).ext0 hE8
    go_wp2_with ((with_reducible show wpList _ _ _ (⟨_, .store _ _ _, _, _, _, _⟩ :: _) _ _); refine st_storeBox stInt rfl rfl bb0 rfl rfl (one2 _ _ _ _) ?_; intro w9 r1 r2)
    have h7 := (h63.mono (NatIn.mono _) (le_store r2 (by omega) (by omega))).mono (NatIn.mono _) le_unbox
    exact bodyPost_ret (results_box rfl rfl stInt r1 rfl) rfl ⟨ExtX.box (hE.trans (hE57.trans hE8)) r2 (by omega), _, rfl, s6, a6, c6, l6, rfl, h61, h62, h7⟩
  · obtain ⟨n, rfl⟩ := Int.eq_ofNat_of_zero_le (show 0 <= v by omega)
    have hn : Hid (sg false n = (n : Int)) := hid rfl
    have hlt2 : Hid (n < 18446744073709551616) := hid (by omega)
    go_enter Tryz.func81, Tryz.ntmps81
    go_wp2_with fail
    refine (rnfrom (X := hidB X b 1) hXW hlt2.out).mono ?_
    rintro e w5 ⟨hE5, u5, rfl, hu5⟩
    go_wp2_with fail
    refine (risigned (hidB X b 1) w5 false u5 n (hXW.ext hE5) hu5).mono ?_
    rintro e w6 ⟨hE6, u6, rfl, s6, a6, c6, l6, rfl, h61, h62, h63⟩
    have bb0 := (b0.ext0 hE5).ext0 hE6
    go_wp2_with ((with_reducible show wpList _ _ _ (⟨_, .store _ _ _, _, _, _, _⟩ :: _) _ _); refine st_storeBox stInt rfl rfl bb0 rfl rfl (one2 _ _ _ _) ?_; intro w7 r1 r2)
    have h7 := (h63.mono (NatIn.mono _) (le_store r2 (by omega) (by omega))).mono (NatIn.mono _) le_unbox
    exact bodyPost_ret (results_box rfl rfl stInt r1 rfl) rfl ⟨ExtX.box (hE.trans (hE5.trans hE6)) r2 (by omega), _, rfl, s6, a6, c6, l6, rfl, h61, h62, h7⟩
theorem risame (X : Nat -> Bool) (w : World) (u v : Value) (x y : Int) (hu : ZC (mk X w) u x) (hv : ZC (mk X w) v y) (hl : lg x.natAbs <= 1099511627776) : Calls Tryz.prog 78 #[u, v] w (BOut w (decide (x = y))) := by
  obtain ⟨s1, a1, c1, l1, rfl, h11, h12, h13⟩ := hu
  obtain ⟨s2, a2, c2, l2, rfl, h21, h22, h23⟩ := hv
  obtain ⟨W, hW, hE, b0, b1, hz⟩ := boxes2 w #[.bool s1, .slice a1 l1.length c1] #[.bool s2, .slice a2 l2.length c2] 36 36
  have hn1 : NC (mk X W) (.slice a1 l1.length c1) x.natAbs := ⟨a1, c1, l1, rfl, h11, h12.2, h13.mono (NatIn.mono _) (mk_ext hE)⟩
  have hn2 : NC (mk X W) (.slice a2 l2.length c2) y.natAbs := ⟨a2, c2, l2, rfl, h21, h22.2, h23.mono (NatIn.mono _) (mk_ext hE)⟩
  obtain ⟨b, hb⟩ : ∃ b, w.heap.size = b := ⟨_, rfl⟩
  rw [hb] at b0 b1 hz
  have k00 := b0.cell 0 rfl
  have k01 := b0.cell 1 rfl
  have k10 := b1.cell 0 rfl
  have k11 := b1.cell 1 rfl
  have hs1 := hid (sg_of h12)
  have hs2 := hid (sg_of h22)
  by_cases hss : s1 = s2
  · subst hss
    have hf : Hid (decide (x = y) = decide (x.natAbs = y.natAbs)) := hid (by
      rw [Bool.eq_iff_iff]
      simp only [decide_eq_true_eq]
      constructor
      · intro h; rw [h]
      · intro h; rw [<- hs1.out, <- hs2.out, h])
    have hl' := hid hl
    clear h12 h22 hl
    go_enter Tryz.func78, Tryz.ntmps78
    go_wp2_with fail
    refine (rnsame X W _ _ _ _ hn1 hn2 hl'.out).mono ?_
    rintro e w5 ⟨rfl, m, rfl⟩
    go_wp2_with fail
    go_ret
    exact ⟨hE.trans ((ExtX.refl W).drewN m), ret_bool hf.out.symm⟩
  · have hf : Hid (decide (x = y) = false) := hid (by
      rw [decide_eq_false_iff_not]
      intro h; subst h; exact hss (h12.1.trans h22.1.symm))
    have hne : (s1 == s2) = false := by simpa using hss
    clear h12 h22 hl hss
    go_enter Tryz.func78, Tryz.ntmps78
    go_wp2_with fail
    go_ret
    exact ⟨hE, ret_bool hf.out.symm⟩
theorem run_fieldMag (s : Bool) (a : Option Addr) (n c : Nat) (W : World) : (Instr.field 36 (.agg #[.bool s, .slice a n c]) 1).run Tryz.prog W = .ok (.slice a n c) W := by kernel_rfl
set_option maxRecDepth 100000 in
set_option maxHeartbeats 800000 in
theorem rigcd (X : Nat -> Bool) (w : World) (u v : Value) (x y : Int) (hX : HX X w) (hu : ZV (mk X w) u x) (hv : ZV (mk X w) v y) (hbx : lg x.natAbs <= 274877906944) (hby : lg y.natAbs <= 274877906944) : Calls Tryz.prog 147 #[u, v] w (ROut X w NC (Nat.gcd x.natAbs y.natAbs)) := by
  have hbx' := hid hbx
  have hby' := hid hby
  clear hbx hby
  have hlx := hid hu.lg
  have hly := hid hv.lg
  obtain ⟨s1, a1, c1, l1, rfl, hu'⟩ := id hu
  obtain ⟨s2, a2, c2, l2, rfl, hv'⟩ := id hv
  obtain ⟨W, hW, hE, b0, b1, hz⟩ := boxes2 w #[.bool s1, .slice a1 l1.length c1] #[.bool s2, .slice a2 l2.length c2] 36 36
  have hXW : HX (hidB X w.heap.size 2) W := hX.boxes hz
  have hu1 := ZV.mono _ _ _ _ (le_boxes (nb := 2) hE) hu
  have hv1 := ZV.mono _ _ _ _ (le_boxes (nb := 2) hE) hv
  obtain ⟨b, hb⟩ : ∃ b, w.heap.size = b := ⟨_, rfl⟩
  have hbw : w.heap.size <= b := by omega
  rw [hb] at b0 b1 hz hXW hu1 hv1
  have hEd : Ext W W.drew := (ExtX.refl W).drew
  have hXd : HX (hidB X b 2) W.drew := hXW
  have hud : ZV (mk (hidB X b 2) W.drew) (.agg #[.bool s1, .slice a1 l1.length c1]) x := hu1
  have hvd : ZV (mk (hidB X b 2) W.drew) (.agg #[.bool s2, .slice a2 l2.length c2]) y := hv1
  have k00 := b0.cell 0 rfl
  have k01 := b0.cell 1 rfl
  have k10 := b1.cell 0 rfl
  have k11 := b1.cell 1 rfl
  clear hu hv hu' hv'
  have hB := hid (And.intro b0 b1)
  have hfl := run_fieldMag
  go_enter Tryz.func147, Tryz.ntmps147
  go_wp2_with fail
  go_region_with (first | (go_at_call 153; (with_reducible refine (ritake (hidB X b 2) W.drew _ x hXd hud).mono ?_); rintro e w5 ⟨hE5, u5, rfl, s5, a5, c5, l5, rfl, h51, h52, h53⟩; have bb0 := hB.out.1.ext0 (hEd.trans hE5); have bb1 := hB.out.2.ext0 (hEd.trans hE5); have e00 := bb0.cell 0 rfl; have e01 := bb0.cell 1 rfl; have e10 := bb1.cell 0 rfl; have e11 := bb1.cell 1 rfl) | (go_at_call 153; (with_reducible refine (ritake (hidB X b 2) w5 _ y (HX.ext hXd hE5) (mkx ZV.mono hvd hE5)).mono ?_); rintro e w6 ⟨hE6, u6, rfl, s6, a6, c6, l6, rfl, h61, h62, h63⟩; have hX6 := HX.ext (HX.ext hXd hE5) hE6; have hm5 : NV (mk (hidB X b 2) w6) (.slice a5 l5.length c5) x.natAbs := NC.nv ⟨a5, c5, l5, rfl, h51, h52.2, h53.mono (NatIn.mono _) (mk_ext hE6)⟩ (by have := hbx'.out; omega); have hm6 : NV (mk (hidB X b 2) w6) (.slice a6 l6.length c6) y.natAbs := NC.nv ⟨a6, c6, l6, rfl, h61, h62.2, h63⟩ (by have := hby'.out; omega)) | (go_at_call 205; (with_reducible refine (rngcd (hidB X b 2) w6 _ _ _ _ hX6 hm5 hm6 hbx'.out hby'.out).mono ?_); rintro e w7 ⟨hE7, u7, rfl, hu7⟩))
  all_goals
    have hEf := hE.trans (hEd.trans (hE5.trans (hE6.trans hE7)))
    clear e00 e01 e10 e11 k00 k01 k10 k11 hfl
    go_wp2_with fail
    go_ret
    exact ⟨hEf, _, rfl, NC.mono _ _ _ _ le_unbox hu7⟩
end Go.Proofs.YtgimdkjgaemcbaaGreat
