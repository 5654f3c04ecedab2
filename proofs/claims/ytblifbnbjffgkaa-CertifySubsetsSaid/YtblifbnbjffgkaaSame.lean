/- ref42.Same at two equal lists of leaves: true. Conditions: lengths far below any machine's. -/
import Derived.Test.YtblifbnbjffgkaaCover1
import Derived.BigQuiet
namespace Go.Proofs.Ytblifbnbjffgkaa
open Go.RowKit Go.Rep Go.Lim

theorem drewQ {w wr : World} (h : Hid (∃ m, wr = w.drewN m)) (n : Nat) : ∃ m, wr.drewN n = w.drewN m := by
  obtain ⟨m, rfl⟩ := h
  exact ⟨_, World.drewN_drewN _ _ _⟩

theorem rsameQ_any (X : Nat → Bool) (ao bo : Option Addr) (a b : List Int) (ca cb : Nat) (w : World) (hsa : Sl (IntIn .i64) 1 (mk X w) ao a) (hsb : Sl (IntIn .i64) 1 (mk X w) bo b) (hla : a.length ≤ 1099511627776) :
    Calls Try.prog 36 #[.slice ao a.length ca, .slice bo b.length cb] w fun e w' => e = .returned (.bool (a == b)) ∧ ∃ m, w' = w.drewN m := by
  have hha := hsa.hd
  have hhb := hsb.hd
  by_cases hlen : a.length = b.length
  · have hbl : b.length ≤ a.length := by omega
    have hab : a.length ≤ b.length := by omega
    have hne : ((a.length : Int) != b.length) = false := bneF (by omega)
    have hlen' := hid hlen
    clear hlen
    go_enter Try.func36, Try.ntmps36
    go_wp2_with fail
    go_loopw [13] (fun c wr => ∃ i : Nat, c = .int .i64 i ∧ i ≤ a.length ∧ Hid (∀ p, p < i → ∀ (hp : p < a.length) (hq : p < b.length), a[p] = b[p]) ∧ ∃ m, wr = w.drewN m) (fun c _ => a.length - (intOf c).toNat)
    case atStart => exact ⟨0, rfl, Nat.zero_le _, fun p hp => by omega, 0, rfl⟩
    case round =>
      obtain ⟨i, rfl, hi, hok, hDr⟩ := hrel
      have hDq : Hid (∃ m, wr = w.drewN m) := hid hDr
      have hE : Ext w wr := by
        obtain ⟨m, hm⟩ := hDr
        rw [hm]; exact (ExtX.refl w).drewN m
      clear hDr
      by_cases hlt : i < a.length
      · have hlt2 : i < b.length := by omega
        have c1 := (hsa.mono (IntIn.mono _) (mk_ext hE)).int i hlt
        have c2 := (hsb.mono (IntIn.mono _) (mk_ext hE)).int i hlt2
        have i1 : ∀ W, (Instr.indexAt 22 (.slice ao a.length ca) (.int .i64 (i : Int))).run Try.prog W = .ok (.pointer (some (adr ao i))) W := run_ix1 slInt ao a.length ca .i64 i hha (by omega) rfl
        have i2 : ∀ W, (Instr.indexAt 22 (.slice bo b.length cb) (.int .i64 (i : Int))).run Try.prog W = .ok (.pointer (some (adr bo i))) W := run_ix1 slInt bo b.length cb .i64 i hhb (by omega) rfl
        obtain ⟨x, hx⟩ : ∃ x, a[i] = x := ⟨_, rfl⟩
        obtain ⟨y, hy⟩ : ∃ y, b[i] = y := ⟨_, rfl⟩
        rw [hx] at c1
        rw [hy] at c2
        have hx' := hid hx
        have hy' := hid hy
        clear hx hy
        by_cases hxy : x = y
        · have hn : Hid (∀ (hp : i < a.length) (hq : i < b.length), a[i] = b[i]) := hid fun _ _ => by rw [hx'.out, hy'.out, hxy]
          have hb : (x != y) = false := bneF hxy
          clear hxy
          go_wp2_with fail
          go_quiet (fail)
          go_wp2_with fail
          go_roundw
          case rel => exact ⟨i + 1, by go_num, by omega, upto_succ hok.out hn.out, drewQ hDq _⟩
          case measure => simp [intOf]; omega
        · have hv : Hid ((a == b) = false) := hid (by
            cases h : a == b
            · rfl
            · have := eq_of_beq h; subst this; exact absurd (hx'.out.symm.trans hy'.out) hxy)
          have hb : (x != y) = true := bneT hxy
          clear hxy
          go_wp2_with fail
          go_quiet (fail)
          go_wp2_with fail
          go_ret
          exact ⟨ret_bool hv.out.symm, drewQ hDq _⟩
      · have hv : Hid ((a == b) = true) := hid (by rw [list_eq_of hlen'.out fun p hp hq => hok.out p (by omega) hp hq]; simp)
        go_wp2_with fail
        go_ret
        exact ⟨ret_bool hv.out.symm, hDq.out⟩
  · have hne : ((a.length : Int) != b.length) = true := bneT (by omega)
    have hv : Hid ((a == b) = false) := hid (by
      cases h : a == b
      · rfl
      · have := eq_of_beq h; subst this; exact absurd rfl hlen)
    clear hlen
    go_enter Try.func36, Try.ntmps36
    go_wp2_with fail
    go_ret
    exact ⟨ret_bool hv.out.symm, 0, rfl⟩

theorem rsameE_any (X : Nat → Bool) (ao bo : Option Addr) (a : List Int) (ca cb : Nat) (w : World) (hsa : Sl (IntIn .i64) 1 (mk X w) ao a) (hsb : Sl (IntIn .i64) 1 (mk X w) bo a) (hla : a.length ≤ 1099511627776) :
    Calls Try.prog 36 #[.slice ao a.length ca, .slice bo a.length cb] w fun e w' => e = .returned (.bool true) ∧ ∃ m, w' = w.drewN m :=
  (rsameQ_any X ao bo a a ca cb w hsa hsb hla).mono fun e w' ⟨he, hm⟩ => ⟨by rw [he]; simp, hm⟩

set_option maxHeartbeats 1600000 in
theorem same_any (X : Nat → Bool) (ao bo : Option Addr) (L : List Leaf) (ca cb : Nat) (w : World) (hsa : Sl LeafR 2 (mk X w) ao L) (hsb : Sl LeafR 2 (mk X w) bo L) (hL : L.length ≤ 1000000) (hLl : Hid (∀ x ∈ L, x.1.length ≤ 1000 ∧ x.2.length ≤ 1000)) :
    Calls Try.prog 19 #[.slice ao L.length ca, .slice bo L.length cb] w (BoolOut w true) := by
  have hha := hsa.hd
  have hhb := hsb.hd
  go_enter Try.func19, Try.ntmps19
  go_wp2_with fail
  go_loopw [13] (fun c wr => ∃ k : Nat, c = .int .i64 k ∧ k ≤ L.length ∧ Ext w wr) (fun c _ => L.length - (intOf c).toNat)
  case atStart => exact ⟨0, rfl, Nat.zero_le _, ExtX.refl _⟩
  case round =>
    obtain ⟨k, rfl, hk, hE⟩ := hrel
    by_cases hlt : k < L.length
    · obtain ⟨u, ua, ub, uc⟩ := (hsa.mono LeafR.mono (mk_ext hE)).2 k hlt
      obtain ⟨v, va, vb, vc⟩ := (hsb.mono LeafR.mono (mk_ext hE)).2 k hlt
      have hlen := hLl.out L[k] (List.getElem_mem hlt)
      obtain ⟨x, hx⟩ : ∃ x, L[k] = x := ⟨_, rfl⟩
      rw [hx] at uc vc hlen
      clear hx
      obtain ⟨a1, c1, a2, c2, rfl, p1, p2, p3, p4⟩ := uc
      obtain ⟨b1, d1, b2, d2, rfl, r1, r2, r3, r4⟩ := vc
      have e1 : wr.cell? (adr ao (k * 2)) = some (.slice a1 x.1.length c1) := mk_cell (ub 0 (by simp [Value.cells]))
      have e2 : wr.cell? (adr ao (k * 2 + 1)) = some (.slice a2 x.2.length c2) := mk_cell (ub 1 (by simp [Value.cells]))
      have f1 : wr.cell? (adr bo (k * 2)) = some (.slice b1 x.1.length d1) := mk_cell (vb 0 (by simp [Value.cells]))
      have f2 : wr.cell? (adr bo (k * 2 + 1)) = some (.slice b2 x.2.length d2) := mk_cell (vb 1 (by simp [Value.cells]))
      clear ua ub va vb
      have i1 : ∀ W, (Instr.indexAt 23 (.slice ao L.length ca) (.int .i64 (k : Int))).run Try.prog W = .ok (.pointer (some (adr ao (k * 2)))) W := run_indexAt_adr slLeaf ao L.length ca .i64 k hha (by omega)
      have i2 : ∀ W, (Instr.indexAt 23 (.slice bo L.length cb) (.int .i64 (k : Int))).run Try.prog W = .ok (.pointer (some (adr bo (k * 2)))) W := run_indexAt_adr slLeaf bo L.length cb .i64 k hhb (by omega)
      have hq1 : ∀ n, Calls Try.prog 36 #[.slice a1 x.1.length c1, .slice b1 x.1.length d1] (wr.drewN n) fun e w' => e = .returned (.bool true) ∧ ∃ m, w' = (wr.drewN n).drewN m := fun n => rsameE_any X a1 b1 x.1 c1 d1 _ p3 r3 (by omega)
      have hq2 : ∀ n, Calls Try.prog 36 #[.slice a2 x.2.length c2, .slice b2 x.2.length d2] (wr.drewN n) fun e w' => e = .returned (.bool true) ∧ ∃ m, w' = (wr.drewN n).drewN m := fun n => rsameE_any X a2 b2 x.2 c2 d2 _ p4 r4 (by omega)
      have e3 : wr.cell? { block := (adr ao (k * 2)).block, off := (adr ao (k * 2)).off + 1, spot := none } = some (.slice a2 x.2.length c2) := e2
      have f3 : wr.cell? { block := (adr bo (k * 2)).block, off := (adr bo (k * 2)).off + 1, spot := none } = some (.slice b2 x.2.length d2) := f2
      go_wp2_with fail
      go_quiet ((first | (go_at_call 36; with_reducible exact Calls.quiet_of (hq1 _)) | (go_at_call 36; with_reducible exact Calls.quiet_of (hq2 _))))
      have hE5 := hE.drewN nq
      clear hq1 hq2 i1 i2 e1 e2 e3 f1 f2 f3
      go_wp2_with fail
      go_roundw
      case rel => exact ⟨k + 1, by go_num, by omega, hE5⟩
      case measure => simp [intOf]; omega
    · go_wp2_with fail
      go_ret
      exact ⟨hE, rfl⟩
end Go.Proofs.Ytblifbnbjffgkaa
