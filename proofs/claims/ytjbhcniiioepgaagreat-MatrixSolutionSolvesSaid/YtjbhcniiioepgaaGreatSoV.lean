/- reference 06: SameInts. Conditions: lengths far below any machine's. reference 03: Div, Same. Conditions: at most 2^36 digits. reference 03: Same. Conditions: at most 2^36 digits. reference 03: SameList, SameLists. Conditions: at most 2^36 digits. reference 03: SameLists. Conditions: at most 2^36 digits. law 06: awake. Conditions: none. law 06: MatrixSolutionSolves returns true. Conditions: none but Go's own. Arguments, opened to lists: []int. Conditions: none. Arguments, opened: six of them; bounds of integers; []int with its numbers' bounds. Conditions: none. Facts of the whole program that each row asks for. Conditions: none. -/
import Derived.Test.YtjbhcniiioepgaaGreatSoU
import Derived.BigQuiet
import Derived.WalkKit
import Derived.ProofKit
import Derived.OpenShut
import Derived.ShutString
import Derived.ChangeOld
import Derived.Below
import Derived.Deep.Slices
import Derived.Deep.Fields
import Derived.ChangeSame
import Derived.Test.YtjbhcniiioepgaaGreatRows
import Derived.JoinedOf
namespace Go.Proofs.YtjbhcniiioepgaaGreat
open Go.RowKit Go.Rep Go.Lim
theorem natlist_eq_of {a b : List Nat} (hl : a.length = b.length) (h : ∀ i (hi : i < a.length) (hj : i < b.length), a[i] = b[i]) : a = b := List.ext_getElem hl h
theorem drewQ {w wr : World} (h : Hid (∃ m, wr = w.drewN m)) (n : Nat) : ∃ m, wr.drewN n = w.drewN m := by
  obtain ⟨m, rfl⟩ := h
  exact ⟨_, World.drewN_drewN _ _ _⟩

theorem rsamei_any (X : Nat → Bool) (ao bo : Option Addr) (a b : List Nat) (ca cb : Nat) (w : World) (hsa : Sl (NatIn .i64) 1 (mk X w) ao a) (hsb : Sl (NatIn .i64) 1 (mk X w) bo b) (hla : a.length ≤ 1099511627776) :
    Calls Tryz.prog 24 #[.slice ao a.length ca, .slice bo b.length cb] w fun e w' => e = .returned (.bool (a == b)) ∧ ∃ m, w' = w.drewN m := by
  have hha := hsa.hd
  have hhb := hsb.hd
  by_cases hlen : a.length = b.length
  · have hbl : b.length ≤ a.length := by omega
    have hab : a.length ≤ b.length := by omega
    have hne : ((a.length : Int) != b.length) = false := bneF (by omega)
    have hlen' := hid hlen
    clear hlen
    go_enter Tryz.func24, Tryz.ntmps24
    go_wp2_with fail
    go_loopw [5] (fun c wr => ∃ i : Nat, c = .int .i64 i ∧ i ≤ a.length ∧ Hid (∀ p, p < i → ∀ (hp : p < a.length) (hq : p < b.length), a[p] = b[p]) ∧ ∃ m, wr = w.drewN m) (fun c _ => a.length - (intOf c).toNat)
    case atStart => exact ⟨0, rfl, Nat.zero_le _, fun p hp => by omega, 0, rfl⟩
    case round =>
      obtain ⟨i, rfl, hi, hok, hDr⟩ := hrel
      have hDq : Hid (∃ m, wr = w.drewN m) := hid hDr
      have hE : Ext w wr := by
        obtain ⟨m, hm⟩ := hDr
        rw [hm]; exact (ExtX.refl w).drewN m
      clear hDr
      by_cases hlt : i < a.length
      · have hlt2 : i < b.length := by omega
        have c1 := (hsa.mono (NatIn.mono _) (mk_ext hE)).nat i hlt
        have c2 := (hsb.mono (NatIn.mono _) (mk_ext hE)).nat i hlt2
        have i1 : ∀ W, (Instr.indexAt 22 (.slice ao a.length ca) (.int .i64 (i : Int))).run Tryz.prog W = .ok (.pointer (some (adr ao i))) W := run_ix1 slInt ao a.length ca .i64 i hha (by omega) rfl
        have i2 : ∀ W, (Instr.indexAt 22 (.slice bo b.length cb) (.int .i64 (i : Int))).run Tryz.prog W = .ok (.pointer (some (adr bo i))) W := run_ix1 slInt bo b.length cb .i64 i hhb (by omega) rfl
        obtain ⟨x, hx⟩ : ∃ x, a[i] = x := ⟨_, rfl⟩
        obtain ⟨y, hy⟩ : ∃ y, b[i] = y := ⟨_, rfl⟩
        rw [hx] at c1
        rw [hy] at c2
        have hx' := hid hx
        have hy' := hid hy
        clear hx hy
        by_cases hxy : x = y
        · have hn : Hid (∀ (hp : i < a.length) (hq : i < b.length), a[i] = b[i]) := hid fun _ _ => by rw [hx'.out, hy'.out, hxy]
          have hb : ((x : Int) != (y : Int)) = false := bneF (by omega)
          clear hxy
          go_wp2_with fail
          go_quiet (fail)
          go_wp2_with fail
          go_roundw
          case rel => exact ⟨i + 1, by go_num, by omega, upto_succ hok.out hn.out, drewQ hDq _⟩
          case measure => simp [intOf]; omega
        · have hv : Hid ((a == b) = false) := hid (by
            cases h : a == b
            · rfl
            · have := eq_of_beq h; subst this; exact absurd (hx'.out.symm.trans hy'.out) hxy)
          have hb : ((x : Int) != (y : Int)) = true := bneT (by omega)
          clear hxy
          go_wp2_with fail
          go_quiet (fail)
          go_wp2_with fail
          go_ret
          exact ⟨ret_bool hv.out.symm, drewQ hDq _⟩
      · have hv : Hid ((a == b) = true) := hid (by rw [natlist_eq_of hlen'.out fun p hp hq => hok.out p (by omega) hp hq]; simp)
        go_wp2_with fail
        go_ret
        exact ⟨ret_bool hv.out.symm, hDq.out⟩
  · have hne : ((a.length : Int) != b.length) = true := bneT (by omega)
    have hv : Hid ((a == b) = false) := hid (by
      cases h : a == b
      · rfl
      · have := eq_of_beq h; subst this; exact absurd rfl hlen)
    clear hlen
    go_enter Tryz.func24, Tryz.ntmps24
    go_wp2_with fail
    go_ret
    exact ⟨ret_bool hv.out.symm, 0, rfl⟩

end Go.Proofs.YtjbhcniiioepgaaGreat

namespace Go.Proofs.YtjbhcniiioepgaaGreat
open Go.RowKit Go.Rep Go.Lim

set_option maxRecDepth 100000 in
theorem rqdiv (X : Nat → Bool) (w : World) (u v : Value) (x y : Rat) (hX : HX X w) (hu : QV (mk X w) u x) (hv : QV (mk X w) v y) : Calls Tryz.prog 215 #[u, v] w (QEOut X w (x / y) (e5 (decide (y = 0)))) := by
  have hlx := hid hu.hq
  have hly := hid hv.hq
  obtain ⟨s1, a1, n1, c1, d1, k1, e1, rfl⟩ := hu.shape
  obtain ⟨s2, a2, n2, c2, d2, k2, e2, rfl⟩ := hv.shape
  obtain ⟨W, hW, hE, b0, b1, b2, hz⟩ := boxes3 w #[.bool s1, .slice a1 n1 c1, .slice d1 k1 e1] #[.bool s2, .slice a2 n2 c2, .slice d2 k2 e2] #[.bool false, .slice none 0 0, .slice none 0 0] 31 31 31
  have hXW : HX (hidB X w.heap.size 3) W := hX.boxes hz
  have hu1 := QV.mono _ _ _ _ (le_boxes (nb := 3) hE) hu
  have hv1 := QV.mono _ _ _ _ (le_boxes (nb := 3) hE) hv
  obtain ⟨b, hb⟩ : ∃ b, w.heap.size = b := ⟨_, rfl⟩
  have hbw : w.heap.size ≤ b := by omega
  rw [hb] at b0 b1 b2 hz hXW hu1 hv1
  have hEd : Ext W W.drew := (ExtX.refl W).drew
  have hXd : HX (hidB X b 3) W.drew := hXW
  have hud : QV (mk (hidB X b 3) W.drew) (.agg #[.bool s1, .slice a1 n1 c1, .slice d1 k1 e1]) x := hu1
  have hvd : QV (mk (hidB X b 3) W.drew) (.agg #[.bool s2, .slice a2 n2 c2, .slice d2 k2 e2]) y := hv1
  have k00 := b0.cell 0 rfl
  have k01 := b0.cell 1 rfl
  have k02 := b0.cell 2 rfl
  have k10 := b1.cell 0 rfl
  have k11 := b1.cell 1 rfl
  have k12 := b1.cell 2 rfl
  clear hu hv
  obtain ⟨ec, hec'⟩ : ∃ ec : Int, e5 (decide (y = 0)) = ec := ⟨_, rfl⟩
  obtain ⟨q, hq'⟩ : ∃ q : Rat, x / y = q := ⟨_, rfl⟩
  rw [hec', hq']
  clear hEd hXd hud hvd
  go_enter Tryz.func215, Tryz.ntmps215
  go_wp2_with fail
  refine (rqsign (hidB X b 3) W _ y hXW hv1).mono ?_
  rintro e w5 ⟨hE5, rfl⟩
  have bb0 := b0.ext0 hE5
  have bb1 := b1.ext0 hE5
  have bb2 := b2.ext0 hE5
  clear k00 k01 k02 k10 k11 k12
  by_cases h0 : y = 0
  · have hec : Hid ((5 : Int) = ec) := hid (by rw [← hec', decide_eq_true h0]; rfl)
    have hres : Hid ((0 : Rat) = q) := hid (by rw [← hq', h0, Rat.div_def, Rat.inv_zero, Rat.mul_zero])
    have hI : (y.num.sign == 0) = true := by rw [h0]; rfl
    generalize y.num.sign = sgy at *
    clear h0 hec' hq'
    go_wp2_with ((with_reducible show wpList _ _ _ (⟨_, .store _ _ _, _, _, _, _⟩ :: _) _ _); refine st_storeBox stRat rfl rfl bb2 rfl rfl (one3 _ _ _ _ _ _ _) ?_; intro w7 r1 r2)
    exact bodyPost_ret (results_box2 rfl rfl stRat r1 rfl) rfl ⟨ExtX.box (hE.trans hE5) r2 (by omega), _, by rw [← hec.out]; rfl, by rw [← hres.out]; exact QC.zero _⟩
  · have hec : Hid ((0 : Int) = ec) := hid (by rw [← hec', decide_eq_false h0]; rfl)
    have hI : (y.num.sign == 0) = false := by
      rw [beq_eq_false_iff_ne]; intro h; exact h0 (Rat.num_eq_zero.1 (Int.sign_eq_zero_iff_zero.1 h))
    have hy0 := hid h0
    have hqq := hid hq'
    generalize y.num.sign = sgy at *
    have k00 := bb0.cell 0 rfl
    have k01 := bb0.cell 1 rfl
    have k02 := bb0.cell 2 rfl
    have k10 := bb1.cell 0 rfl
    have k11 := bb1.cell 1 rfl
    have k12 := bb1.cell 2 rfl
    clear h0 hec' hq'
    go_wp2_with fail
    refine (rqquo (hidB X b 3) w5 _ _ x y (hXW.ext hE5) (mkx QV.mono hu1 hE5) (mkx QV.mono hv1 hE5) hy0.out).mono ?_
    rintro e w6 ⟨hE6, u6, rfl, hu6⟩
    obtain ⟨s5, a5, n5, c5, d5, k5, e5, rfl⟩ := hu6.shape
    rw [hqq.out] at hu6
    have bb3 := bb2.ext0 hE6
    clear k00 k01 k02 k10 k11 k12
    go_wp2_with ((with_reducible show wpList _ _ _ (⟨_, .store _ _ _, _, _, _, _⟩ :: _) _ _); refine st_storeBox stRat rfl rfl bb3 rfl rfl (one3 _ _ _ _ _ _ _) ?_; intro w7 r1 r2)
    have h7 := QC.mono _ _ _ _ le_unbox (QC.mono _ _ _ _ (le_store r2 (by omega) (by omega)) hu6)
    exact bodyPost_ret (results_box2 rfl rfl stRat r1 rfl) rfl ⟨ExtX.box (hE.trans (hE5.trans hE6)) r2 (by omega), _, by rw [← hec.out]; rfl, h7⟩
end Go.Proofs.YtjbhcniiioepgaaGreat

namespace Go.Proofs.YtjbhcniiioepgaaGreat
open Go.RowKit Go.Rep Go.Lim

set_option maxRecDepth 100000 in
theorem rqsame (X : Nat → Bool) (w : World) (u v : Value) (x y : Rat) (hu : QC (mk X w) u x) (hv : QC (mk X w) v y) (hx : hq x ≤ 68719476736) : Calls Tryz.prog 41 #[u, v] w (BOut w (decide (x = y))) := by
  replace hx := hid hx
  obtain ⟨s1, a1, n1, c1, d1, k1, e1, rfl⟩ := hu.shape
  obtain ⟨s2, a2, n2, c2, d2, k2, e2, rfl⟩ := hv.shape
  obtain ⟨W, hW, hE, b0, b1, hz⟩ := boxes2 w #[.bool s1, .slice a1 n1 c1, .slice d1 k1 e1] #[.bool s2, .slice a2 n2 c2, .slice d2 k2 e2] 31 31
  have hu1 := mkx QC.mono hu hE
  have hv1 := mkx QC.mono hv hE
  obtain ⟨b, hb⟩ : ∃ b, w.heap.size = b := ⟨_, rfl⟩
  rw [hb] at b0 b1 hz
  have k00 := b0.cell 0 rfl
  have k01 := b0.cell 1 rfl
  have k02 := b0.cell 2 rfl
  have k10 := b1.cell 0 rfl
  have k11 := b1.cell 1 rfl
  have k12 := b1.cell 2 rfl
  clear hu hv
  obtain ⟨hxz, _, hxd⟩ := hu1.num
  obtain ⟨hyz, _, hyd⟩ := hv1.num
  have hl1 := hid (Nat.le_trans (hq_num x) (Nat.le_trans hx.out (by decide : (68719476736 : Nat) ≤ 1099511627776)))
  have hl2 := hid (Nat.le_trans (hq_dn x) (Nat.le_trans hx.out (by decide : (68719476736 : Nat) ≤ 1099511627776)))
  by_cases h1 : x.num = y.num
  · have hr : Hid (decide (dn x = dn y) = decide (x = y)) := hid (by
      rw [Bool.eq_iff_iff, decide_eq_true_eq, decide_eq_true_eq]
      constructor
      · intro h
        refine Rat.ext h1 ?_
        have := dn_zero x; have := dn_zero y
        unfold dn at h
        have := x.den_nz; have := y.den_nz
        split at h <;> split at h <;> omega
      · rintro rfl; rfl)
    have hd : Hid (decide (x.num = y.num) = true) := hid (decide_eq_true h1)
    clear h1
    go_enter Tryz.func41, Tryz.ntmps41
    go_wp2_with fail
    refine (risame X W _ _ _ _ hxz hyz hl1.out).mono ?_
    rintro e w5 ⟨hE5, rfl⟩
    rw [hd.out]
    have j02 := (b0.ext0 hE5).cell 2 rfl
    have j12 := (b1.ext0 hE5).cell 2 rfl
    clear k00 k01 k02 k10 k11 k12
    go_wp2_with fail
    refine (rnsame X w5 _ _ _ _ (mkx NC.mono hxd hE5) (mkx NC.mono hyd hE5) hl2.out).mono ?_
    rintro e w6 ⟨rfl, m, rfl⟩
    go_wp2_with fail
    go_ret
    exact ⟨(hE.trans hE5).drewN m, ret_bool hr.out⟩
  · have hr : Hid (false = decide (x = y)) := hid (decide_eq_false (by rintro rfl; exact h1 rfl)).symm
    have hd : Hid (decide (x.num = y.num) = false) := hid (decide_eq_false h1)
    clear h1
    go_enter Tryz.func41, Tryz.ntmps41
    go_wp2_with fail
    refine (risame X W _ _ _ _ hxz hyz hl1.out).mono ?_
    rintro e w5 ⟨hE5, rfl⟩
    rw [hd.out]
    clear k00 k01 k02 k10 k11 k12
    go_wp2_with fail
    go_ret
    exact ⟨hE.trans hE5, ret_bool hr.out⟩
end Go.Proofs.YtjbhcniiioepgaaGreat

namespace Go.Proofs.YtjbhcniiioepgaaGreat
open Go.RowKit Go.Rep Go.Lim

theorem ratlist_eq {a b : List Rat} (hl : a.length = b.length) (h : ∀ p, p < a.length → ∀ (hp : p < a.length) (hq : p < b.length), a[p] = b[p]) : a = b := List.ext_getElem hl fun i h1 h2 => h i h1 h1 h2

set_option maxRecDepth 100000 in
theorem rqsamelist (X : Nat → Bool) (w : World) (u v : Value) (a b : List Rat) (hu : RC (mk X w) u a) (hv : RC (mk X w) v b) (hB : BR 68719476736 a) (hla : a.length ≤ 1099511627776) : Calls Tryz.prog 52 #[u, v] w (BOut w (decide (a = b))) := by
  obtain ⟨ao, ca, rfl, hca, hsa⟩ := hu
  obtain ⟨bo, cb, rfl, hcb, hsb⟩ := hv
  have hha := hsa.hd
  have hhb := hsb.hd
  have hB' := hid hB
  clear hB
  by_cases hlen : a.length = b.length
  · have hbl : b.length ≤ a.length := by omega
    have hab : a.length ≤ b.length := by omega
    have hne : ((a.length : Int) != b.length) = false := bneF (by omega)
    have hlen' := hid hlen
    clear hlen
    go_enter Tryz.func52, Tryz.ntmps52
    go_wp2_with fail
    go_loopw [5] (fun c wr => ∃ i : Nat, c = .int .i64 i ∧ i ≤ a.length ∧ Hid (∀ p, p < i → ∀ (hp : p < a.length) (hq : p < b.length), a[p] = b[p]) ∧ Ext w wr) (fun c _ => a.length - (intOf c).toNat)
    case atStart => exact ⟨0, rfl, Nat.zero_le _, fun p hp => by omega, ExtX.refl _⟩
    case round =>
      obtain ⟨i, rfl, hi, hok, hE⟩ := hrel
      by_cases hlt : i < a.length
      · have hlt2 : i < b.length := by omega
        obtain ⟨g1, o1, s1, a1, n1, c1, d1, k1, e1, hg1, hX1, hc1, hq1⟩ := (hsa.mono QC.mono (mk_ext hE)).rat QC.shaped i hlt
        obtain ⟨g2, o2, s2, a2, n2, c2, d2, k2, e2, hg2, hX2, hc2, hq2⟩ := (hsb.mono QC.mono (mk_ext hE)).rat QC.shaped i hlt2
        have i1 : ∀ W, (Instr.indexAt 33 (.slice ao a.length ca) (.int .i64 (i : Int))).run Tryz.prog W = .ok (.pointer (some ⟨g1, o1, none⟩)) W := by rw [← hg1]; exact run_indexAt_adr slRat ao a.length ca .i64 i hha (by omega)
        have i2 : ∀ W, (Instr.indexAt 33 (.slice bo b.length cb) (.int .i64 (i : Int))).run Tryz.prog W = .ok (.pointer (some ⟨g2, o2, none⟩)) W := by rw [← hg2]; exact run_indexAt_adr slRat bo b.length cb .i64 i hhb (by omega)
        have hEd : Ext wr wr.drew := (ExtX.refl wr).drew
        have hS : Hid (∀ W', Ext wr.drew W' → W'.cell? ⟨g1, o1, none⟩ = some (.bool s1) ∧ W'.cell? ⟨g1, o1 + 1, none⟩ = some (.slice a1 n1 c1) ∧ W'.cell? ⟨g1, o1 + 2, none⟩ = some (.slice d1 k1 e1) ∧ W'.cell? ⟨g2, o2, none⟩ = some (.bool s2) ∧ W'.cell? ⟨g2, o2 + 1, none⟩ = some (.slice a2 n2 c2) ∧ W'.cell? ⟨g2, o2 + 2, none⟩ = some (.slice d2 k2 e2)) := hid fun W' h => by
          have p1 := hc1.out noY W' (hEd.trans h) rfl
          have p2 := hc2.out noY W' (hEd.trans h) rfl
          exact ⟨p1.1, p1.2.1, p1.2.2, p2.1, p2.2.1, p2.2.2⟩
        obtain ⟨k00, k01, k02, k10, k11, k12⟩ := hS.out wr.drew (ExtX.refl _)
        have hbq := hid (hB'.out a[i] (List.getElem_mem _))
        have hq1d : QC (mk X wr.drew) (.agg #[.bool s1, .slice a1 n1 c1, .slice d1 k1 e1]) a[i] := hq1
        have hq2d : QC (mk X wr.drew) (.agg #[.bool s2, .slice a2 n2 c2, .slice d2 k2 e2]) b[i] := hq2
        obtain ⟨x, hx⟩ : ∃ x, a[i] = x := ⟨_, rfl⟩
        obtain ⟨y, hy⟩ : ∃ y, b[i] = y := ⟨_, rfl⟩
        rw [hx] at hq1d hbq
        rw [hy] at hq2d
        have hx' := hid hx
        have hy' := hid hy
        clear hx hy hc1 hc2 hg1 hg2 hq1 hq2
        by_cases hxy : x = y
        · have hn : Hid (∀ (hp : i < a.length) (hq : i < b.length), a[i] = b[i]) := hid fun _ _ => by rw [hx'.out, hy'.out, hxy]
          have hb := hid (decide_eq_true hxy)
          clear hxy
          go_wp2_with fail
          go_region_held3 (fun w' => w'.cell? ⟨g1, o1, none⟩ = some (.bool s1) ∧ w'.cell? ⟨g1, o1 + 1, none⟩ = some (.slice a1 n1 c1) ∧ w'.cell? ⟨g1, o1 + 2, none⟩ = some (.slice d1 k1 e1) ∧ w'.cell? ⟨g2, o2, none⟩ = some (.bool s2) ∧ w'.cell? ⟨g2, o2 + 1, none⟩ = some (.slice a2 n2 c2) ∧ w'.cell? ⟨g2, o2 + 2, none⟩ = some (.slice d2 k2 e2))
            (first | exact hS.out _ t1 | go_keep)
            ((go_at_call 41; (with_reducible refine (rqsame X wr.drew _ _ x y hq1d hq2d hbq.out).mono ?_); rintro ee w5 ⟨t1, rfl⟩; rw [hb.out]))
          have hE5 := hE.trans (hEd.trans t1)
          clear k00 k01 k02 k10 k11 k12
          go_wp2_with fail
          go_roundw
          case rel => exact ⟨i + 1, by go_num, by omega, upto_succ hok.out hn.out, hE5⟩
          case measure => simp [intOf]; omega
        · have hv : Hid (false = decide (a = b)) := hid (by
            symm
            rw [decide_eq_false_iff_not]
            intro h; subst h; exact hxy (hx'.out.symm.trans hy'.out))
          have hb := hid (decide_eq_false hxy)
          clear hxy
          go_wp2_with fail
          go_region_held3 (fun w' => w'.cell? ⟨g1, o1, none⟩ = some (.bool s1) ∧ w'.cell? ⟨g1, o1 + 1, none⟩ = some (.slice a1 n1 c1) ∧ w'.cell? ⟨g1, o1 + 2, none⟩ = some (.slice d1 k1 e1) ∧ w'.cell? ⟨g2, o2, none⟩ = some (.bool s2) ∧ w'.cell? ⟨g2, o2 + 1, none⟩ = some (.slice a2 n2 c2) ∧ w'.cell? ⟨g2, o2 + 2, none⟩ = some (.slice d2 k2 e2))
            (first | exact hS.out _ t1 | go_keep)
            ((go_at_call 41; (with_reducible refine (rqsame X wr.drew _ _ x y hq1d hq2d hbq.out).mono ?_); rintro ee w5 ⟨t1, rfl⟩; rw [hb.out]))
          have hE5 := hE.trans (hEd.trans t1)
          clear k00 k01 k02 k10 k11 k12
          go_wp2_with fail
          go_ret
          exact ⟨hE5, ret_bool hv.out⟩
      · have hv : Hid (true = decide (a = b)) := hid (by
          symm
          rw [decide_eq_true_eq]
          exact ratlist_eq hlen'.out fun p hp => hok.out p (by omega))
        go_wp2_with fail
        go_ret
        exact ⟨hE, ret_bool hv.out⟩
  · have hne : ((a.length : Int) != b.length) = true := bneT (by omega)
    have hv : Hid (false = decide (a = b)) := hid (by
      symm
      rw [decide_eq_false_iff_not]
      intro h; subst h; exact hlen rfl)
    clear hlen
    go_enter Tryz.func52, Tryz.ntmps52
    go_wp2_with fail
    go_ret
    exact ⟨ExtX.refl _, ret_bool hv.out⟩
end Go.Proofs.YtjbhcniiioepgaaGreat

namespace Go.Proofs.YtjbhcniiioepgaaGreat
open Go.RowKit Go.Rep Go.Lim
theorem ratlists_eq {a b : List (List Rat)} (hl : a.length = b.length) (h : ∀ p, p < a.length → ∀ (hp : p < a.length) (hq : p < b.length), a[p] = b[p]) : a = b := List.ext_getElem hl fun i h1 h2 => h i h1 h1 h2

set_option maxRecDepth 100000 in
theorem rqsamelists (X : Nat → Bool) (w : World) (u v : Value) (a b : List (List Rat)) (hu : MC (mk X w) u a) (hv : MC (mk X w) v b) (hB : BM 68719476736 a) (hla : a.length ≤ 1099511627776) (hrl : ∀ r ∈ a, r.length ≤ 1099511627776) : Calls Tryz.prog 23 #[u, v] w (BOut w (decide (a = b))) := by
  obtain ⟨ao, ca, rfl, hca, hsa⟩ := hu
  obtain ⟨bo, cb, rfl, hcb, hsb⟩ := hv
  have hha := hsa.hd
  have hhb := hsb.hd
  have hB' := hid hB
  have hrl' := hid hrl
  clear hB hrl
  by_cases hlen : a.length = b.length
  · have hbl : b.length ≤ a.length := by omega
    have hab : a.length ≤ b.length := by omega
    have hne : ((a.length : Int) != b.length) = false := bneF (by omega)
    have hlen' := hid hlen
    clear hlen
    go_enter Tryz.func23, Tryz.ntmps23
    go_wp2_with fail
    go_loopw [5] (fun c wr => ∃ i : Nat, c = .int .i64 i ∧ i ≤ a.length ∧ Hid (∀ p, p < i → ∀ (hp : p < a.length) (hq : p < b.length), a[p] = b[p]) ∧ Ext w wr) (fun c _ => a.length - (intOf c).toNat)
    case atStart => exact ⟨0, rfl, Nat.zero_le _, fun p hp => by omega, ExtX.refl _⟩
    case round =>
      obtain ⟨i, rfl, hi, hok, hE⟩ := hrel
      by_cases hlt : i < a.length
      · have hlt2 : i < b.length := by omega
        obtain ⟨a1, c1, hX1, hc1, hcl1, hq1⟩ := (hsa.mono RC.mono (mk_ext hE)).row i hlt
        obtain ⟨a2, c2, hX2, hc2, hcl2, hq2⟩ := (hsb.mono RC.mono (mk_ext hE)).row i hlt2
        have i1 : ∀ W, (Instr.indexAt 23 (.slice ao a.length ca) (.int .i64 (i : Int))).run Tryz.prog W = .ok (.pointer (some (adr ao i))) W := run_ix1 slRats ao a.length ca .i64 i hha (by omega) rfl
        have i2 : ∀ W, (Instr.indexAt 23 (.slice bo b.length cb) (.int .i64 (i : Int))).run Tryz.prog W = .ok (.pointer (some (adr bo i))) W := run_ix1 slRats bo b.length cb .i64 i hhb (by omega) rfl
        have hEd : Ext wr wr.drew := (ExtX.refl wr).drew
        have hS : Hid (∀ W', Ext wr.drew W' → W'.cell? (adr ao i) = some (.slice a1 a[i].length c1) ∧ W'.cell? (adr bo i) = some (.slice a2 b[i].length c2)) := hid fun W' h => ⟨hc1.out noY W' (hEd.trans h) rfl, hc2.out noY W' (hEd.trans h) rfl⟩
        obtain ⟨k00, k10⟩ := hS.out wr.drew (ExtX.refl _)
        have hbq := hid (hB'.out a[i] (List.getElem_mem _))
        have hbl2 := hid (hrl'.out a[i] (List.getElem_mem _))
        have hq1d : RC (mk X wr.drew) (.slice a1 a[i].length c1) a[i] := ⟨a1, c1, rfl, hcl1, hq1⟩
        have hq2d : RC (mk X wr.drew) (.slice a2 b[i].length c2) b[i] := ⟨a2, c2, rfl, hcl2, hq2⟩
        obtain ⟨x, hx⟩ : ∃ x, a[i] = x := ⟨_, rfl⟩
        obtain ⟨y, hy⟩ : ∃ y, b[i] = y := ⟨_, rfl⟩
        rw [hx] at hq1d hbq hbl2 k00 hS
        rw [hy] at hq2d k10 hS
        have hx' := hid hx
        have hy' := hid hy
        clear hx hy hc1 hc2 hq1 hq2 hcl1 hcl2
        by_cases hxy : x = y
        · have hn : Hid (∀ (hp : i < a.length) (hq : i < b.length), a[i] = b[i]) := hid fun _ _ => by rw [hx'.out, hy'.out, hxy]
          have hb := hid (decide_eq_true hxy)
          clear hxy
          go_wp2_with fail
          go_region_held3 (fun w' => w'.cell? (adr ao i) = some (.slice a1 x.length c1) ∧ w'.cell? (adr bo i) = some (.slice a2 y.length c2))
            (first | exact hS.out _ t1 | go_keep)
            ((go_at_call 52; (with_reducible refine (rqsamelist X wr.drew _ _ x y hq1d hq2d hbq.out hbl2.out).mono ?_); rintro ee w5 ⟨t1, rfl⟩; rw [hb.out]))
          have hE5 := hE.trans (hEd.trans t1)
          clear k00 k10
          go_wp2_with fail
          go_roundw
          case rel => exact ⟨i + 1, by go_num, by omega, upto_succ hok.out hn.out, hE5⟩
          case measure => simp [intOf]; omega
        · have hv : Hid (false = decide (a = b)) := hid (by
            symm
            rw [decide_eq_false_iff_not]
            intro h; subst h; exact hxy (hx'.out.symm.trans hy'.out))
          have hb := hid (decide_eq_false hxy)
          clear hxy
          go_wp2_with fail
          go_region_held3 (fun w' => w'.cell? (adr ao i) = some (.slice a1 x.length c1) ∧ w'.cell? (adr bo i) = some (.slice a2 y.length c2))
            (first | exact hS.out _ t1 | go_keep)
            ((go_at_call 52; (with_reducible refine (rqsamelist X wr.drew _ _ x y hq1d hq2d hbq.out hbl2.out).mono ?_); rintro ee w5 ⟨t1, rfl⟩; rw [hb.out]))
          have hE5 := hE.trans (hEd.trans t1)
          clear k00 k10
          go_wp2_with fail
          go_ret
          exact ⟨hE5, ret_bool hv.out⟩
      · have hv : Hid (true = decide (a = b)) := hid (by
          symm
          rw [decide_eq_true_eq]
          exact ratlists_eq hlen'.out fun p hp => hok.out p (by omega))
        go_wp2_with fail
        go_ret
        exact ⟨hE, ret_bool hv.out⟩
  · have hne : ((a.length : Int) != b.length) = true := bneT (by omega)
    have hv : Hid (false = decide (a = b)) := hid (by
      symm
      rw [decide_eq_false_iff_not]
      intro h; subst h; exact hlen rfl)
    clear hlen
    go_enter Tryz.func23, Tryz.ntmps23
    go_wp2_with fail
    go_ret
    exact ⟨ExtX.refl _, ret_bool hv.out⟩
end Go.Proofs.YtjbhcniiioepgaaGreat

namespace Go.Lin
open Go.Lim
theorem awakeL : redP [[0, 2], [1, 1]] 2 = ([[1, 0], [0, 1]], [0, 1]) := by decide +kernel
theorem lg_le_one {n : Nat} (h : n < 4294967296) : lg n ≤ 1 := by
  by_cases h0 : n = 0
  · subst h0; simp [lg_zero]
  · rw [lg_one_iff (by omega) h]; exact Nat.le_refl _
theorem hq_small {z : Int} (h : z.natAbs < 4294967296) : hq (z : Rat) ≤ 1 := hq_int z 1 (lg_le_one h) (Nat.le_refl _)
theorem BM.hb {B : Nat} {m : Mat} (h : Go.Rep.BM B m) (hB : 1 ≤ B) : HB B m := fun i j => by
  unfold ent
  by_cases hi : i < m.length
  · by_cases hj : j < (m[i]).length
    · have := h m[i] (List.getElem_mem _) (m[i])[j] (List.getElem_mem _)
      simpa [List.getD_eq_getElem?_getD, hi, hj] using this
    · rw [getD_row hi, List.getD_eq_getElem?_getD, List.getElem?_eq_none (by omega)]
      simpa [hq_zero] using hB
  · rw [List.getD_eq_getElem?_getD (l := m), List.getElem?_eq_none (by omega)]
    simpa [hq_zero] using hB
end Go.Lin
namespace Go.Rep
open Go.RowKit Go.Lim
theorem rc_lit2 {X : Nat → Bool} {w : World} {e : TypeId} (hX : HX X w) {u v : Value} {x y : Rat} (hu : QC (mk X w) u x) (hv : QC (mk X w) v y) {arr : Array Value} (harr : arr = (cellsL u ++ cellsL v).toArray) : RC (mk X (w.alloc (.cells arr e))) (.slice (some ⟨w.heap.size, 0, none⟩) 2 2) [x, y] := by
  have := OL.lit (w := w) (base := w.heap.size) (e := e) QC.elem hX (Nat.le_refl _) [u, v] [x, y] arr (by rw [harr]; simp) rfl (fun i hi hi' => by
    match i, hi with
    | 0, _ => exact hu
    | 1, _ => exact hv) (by simp)
  exact ⟨_, _, rfl, Nat.le_refl _, this.sl QC.elem⟩
theorem mc_lit2 {X : Nat → Bool} {w : World} {e : TypeId} (hX : HX X w) {u v : Value} {x y : List Rat} (hu : RC (mk X w) u x) (hv : RC (mk X w) v y) {arr : Array Value} (harr : arr = (cellsL u ++ cellsL v).toArray) : MC (mk X (w.alloc (.cells arr e))) (.slice (some ⟨w.heap.size, 0, none⟩) 2 2) [x, y] := by
  have := OL.lit (w := w) (base := w.heap.size) (e := e) RC.elem hX (Nat.le_refl _) [u, v] [x, y] arr (by rw [harr]; simp) rfl (fun i hi hi' => by
    match i, hi with
    | 0, _ => exact hu
    | 1, _ => exact hv) (by simp)
  exact ⟨_, _, rfl, Nat.le_refl _, this.sl RC.elem⟩
theorem pv_lit2 {X : Nat → Bool} {w : World} {e : TypeId} (hX : HX X w) (x y : Nat) {arr : Array Value} (harr : arr = #[.int .i64 (x : Int), .int .i64 (y : Int)]) : SlV (NatIn .i64) 1 (mk X (w.alloc (.cells arr e))) (.slice (some ⟨w.heap.size, 0, none⟩) 2 2) [x, y] := by
  have := OL.lit (w := w) (base := w.heap.size) (e := e) (NatIn.elem .i64) hX (Nat.le_refl _) [.int .i64 (x : Int), .int .i64 (y : Int)] [x, y] arr (by rw [harr]; simp [cellsL, Value.cells]) rfl (fun i hi hi' => by
    match i, hi with
    | 0, _ => rfl
    | 1, _ => rfl) (by simp)
  exact ⟨_, _, rfl, Nat.le_refl _, this.sl (NatIn.elem .i64)⟩
end Go.Rep
namespace Go.Proofs.YtjbhcniiioepgaaGreat
open Go.RowKit Go.Rep Go.Lim Go.Lin

set_option maxRecDepth 100000 in
set_option maxHeartbeats 800000 in
theorem awake6_any (w : World) : Calls Tryz.prog 22 #[] w (BOut w true) := by
  have hX := HX.none w
  go_enter Tryz.func22, Tryz.ntmps22
  go_wp2_with fail
  refine (rqfrom noY w 0 hX (by omega) (by omega)).mono ?_
  rintro e w1 ⟨hE1, u1, rfl, hu1⟩
  obtain ⟨s1, a1, n1, c1, d1, k1, e1, rfl⟩ := hu1.shape
  go_wp2_with fail
  refine (rqfrom noY w1 2 (hX.ext hE1) (by omega) (by omega)).mono ?_
  rintro e w2 ⟨hE2, u2, rfl, hu2⟩
  obtain ⟨s2, a2, n2, c2, d2, k2, e2, rfl⟩ := hu2.shape
  have hX2 := (hX.ext hE1).ext hE2
  have hA := rc_lit2 (e := 31) hX2 (mkx QC.mono hu1 hE2) hu2 rfl
  go_wp2_with fail
  obtain ⟨w3, hw3, hE3⟩ : ∃ w3, w2.alloc (.cells (cellsL (.agg #[.bool s1, .slice a1 n1 c1, .slice d1 k1 e1]) ++ cellsL (.agg #[.bool s2, .slice a2 n2 c2, .slice d2 k2 e2])).toArray 31) = w3 ∧ Ext w2 w3 := ⟨_, rfl, (ExtX.refl w2).alloc _⟩
  change Calls _ _ _ (w2.alloc (.cells (cellsL (.agg #[.bool s1, .slice a1 n1 c1, .slice d1 k1 e1]) ++ cellsL (.agg #[.bool s2, .slice a2 n2 c2, .slice d2 k2 e2])).toArray 31)) _
  rw [hw3] at hA ⊢
  obtain ⟨b3, hb3⟩ : ∃ b, w2.heap.size = b := ⟨_, rfl⟩
  rw [hb3] at hA ⊢
  clear hw3 hb3
  have hX3 := hX2.ext hE3
  refine (rqfrom noY w3 1 hX3 (by omega) (by omega)).mono ?_
  rintro e w4 ⟨hE4, u4, rfl, hu4⟩
  obtain ⟨s4, a4, n4, c4, d4, k4, e4, rfl⟩ := hu4.shape
  have hX4 := hX3.ext hE4
  go_wp2_with fail
  refine (rqfrom noY w4 1 hX4 (by omega) (by omega)).mono ?_
  rintro e w5 ⟨hE5, u5, rfl, hu5⟩
  obtain ⟨s5, a5, n5, c5, d5, k5, e5, rfl⟩ := hu5.shape
  have hX5 := hX4.ext hE5
  have hB := rc_lit2 (e := 31) hX5 (mkx QC.mono hu4 hE5) hu5 rfl
  have hE6 : Ext w5 (w5.alloc (.cells (cellsL (.agg #[.bool s4, .slice a4 n4 c4, .slice d4 k4 e4]) ++ cellsL (.agg #[.bool s5, .slice a5 n5 c5, .slice d5 k5 e5])).toArray 31)) := (ExtX.refl w5).alloc _
  have hX6 := hX5.ext hE6
  have hA6 := mkx RC.mono hA (hE4.trans (hE5.trans hE6))
  have hM := mc_lit2 (e := 33) hX6 hA6 hB rfl
  have hE7 : Ext w5 ((w5.alloc (.cells (cellsL (.agg #[.bool s4, .slice a4 n4 c4, .slice d4 k4 e4]) ++ cellsL (.agg #[.bool s5, .slice a5 n5 c5, .slice d5 k5 e5])).toArray 31)).alloc (.cells (cellsL (.slice (some ⟨b3, 0, none⟩) 2 2) ++ cellsL (.slice (some ⟨w5.heap.size, 0, none⟩) 2 2)).toArray 33)) := hE6.alloc _
  go_wp2_with fail
  change Calls _ _ _ ((w5.alloc (.cells (cellsL (.agg #[.bool s4, .slice a4 n4 c4, .slice d4 k4 e4]) ++ cellsL (.agg #[.bool s5, .slice a5 n5 c5, .slice d5 k5 e5])).toArray 31)).alloc (.cells (cellsL (.slice (some ⟨b3, 0, none⟩) 2 2) ++ cellsL (.slice (some ⟨w5.heap.size, 0, none⟩) 2 2)).toArray 33)) _
  have hM7 : MC (mk noY ((w5.alloc (.cells (cellsL (.agg #[.bool s4, .slice a4 n4 c4, .slice d4 k4 e4]) ++ cellsL (.agg #[.bool s5, .slice a5 n5 c5, .slice d5 k5 e5])).toArray 31)).alloc (.cells (cellsL (.slice (some ⟨b3, 0, none⟩) 2 2) ++ cellsL (.slice (some ⟨w5.heap.size, 0, none⟩) 2 2)).toArray 33))) (.slice (some ⟨w5.heap.size + 1, 0, none⟩) 2 2) [[0, 2], [1, 1]] := by
    have e0 : ((0 : Int) : Rat) = 0 := by decide +kernel
    have e1 : ((1 : Int) : Rat) = 1 := by decide +kernel
    have e2 : ((2 : Int) : Rat) = 2 := by decide +kernel
    rw [e0, e1, e2] at hM
    simpa using hM
  obtain ⟨w7, hw7⟩ : ∃ w7, ((w5.alloc (.cells (cellsL (.agg #[.bool s4, .slice a4 n4 c4, .slice d4 k4 e4]) ++ cellsL (.agg #[.bool s5, .slice a5 n5 c5, .slice d5 k5 e5])).toArray 31)).alloc (.cells (cellsL (.slice (some ⟨b3, 0, none⟩) 2 2) ++ cellsL (.slice (some ⟨w5.heap.size, 0, none⟩) 2 2)).toArray 33)) = w7 := ⟨_, rfl⟩
  rw [hw7] at hM7 hE7 ⊢
  have hE07 : Ext w w7 := (hE1.trans (hE2.trans (hE3.trans (hE4.trans hE5)))).trans hE7
  have hX7 := hX.ext hE07
  have hbm : BM 1 [[0, 2], [1, 1]] := by
    intro r hr q hqm
    have h0 : hq 0 ≤ 1 := hq_small (z := 0) (by decide)
    have h1 : hq 1 ≤ 1 := hq_small (z := 1) (by decide)
    have h2 : hq 2 ≤ 1 := hq_small (z := 2) (by decide)
    simp only [List.mem_cons, List.not_mem_nil, or_false] at hr
    rcases hr with rfl | rfl <;> simp only [List.mem_cons, List.not_mem_nil, or_false] at hqm <;> rcases hqm with rfl | rfl <;> assumption
  clear hM hw7 hA hB hA6 hE6
  have hred := preduce_ok noY w7 _ _ hX7 (hM7.mv (fun r hr q hq => Nat.le_trans (hbm r hr q hq) (by decide))) (by decide) (tame_of (n := 2) ⟨rfl, by intro r hr; simp only [List.mem_cons, List.not_mem_nil, or_false] at hr; rcases hr with rfl | rfl <;> rfl⟩ (BM.hb hbm (by decide)) (by decide))
  have hcl : colsL [[(0 : Rat), 2], [1, 1]] = 2 := rfl
  rw [hcl, awakeL] at hred
  refine hred.mono ?_
  rintro e w8 ⟨hE8, u8, v8, rfl, hu8, hv8⟩
  obtain ⟨ao, ca, rfl, hca, hsa⟩ := hu8
  obtain ⟨bo, cb, rfl, hcb, hsb⟩ := hv8
  have hX8 := hX7.ext hE8
  go_wp2_with fail
  have hE9 : Ext w8 (w8.alloc (.cells #[.int .i64 0, .int .i64 1] 3)) := (ExtX.refl w8).alloc _
  have hlit : SlV (NatIn .i64) 1 (mk noY (w8.alloc (.cells #[.int .i64 0, .int .i64 1] 3))) (.slice (some ⟨w8.heap.size, 0, none⟩) 2 2) [0, 1] := pv_lit2 hX8 0 1 rfl
  have hsb9 := hsb.mono (NatIn.mono _) (mk_ext hE9)
  have hsa9 := hsa.mono RC.mono (mk_ext hE9)
  obtain ⟨w9, hw9⟩ : ∃ w9, w8.alloc (.cells #[.int .i64 0, .int .i64 1] 3) = w9 := ⟨_, rfl⟩
  obtain ⟨b8, hb8⟩ : ∃ b, w8.heap.size = b := ⟨_, rfl⟩
  rw [hw9] at hE9 hlit hsb9 hsa9 ⊢
  rw [hb8] at hlit ⊢
  clear hw9 hb8
  have hX9 := hX8.ext hE9
  obtain ⟨lo, cl, heq, hcl9, hsl9⟩ := hlit
  simp only [Value.slice.injEq] at heq
  obtain ⟨rfl, _, rfl⟩ := heq
  refine (rsamei_any noY _ _ [0, 1] [0, 1] _ _ w9 hsb9 hsl9 (by decide)).mono ?_
  rintro e w10 ⟨rfl, m10, hw10⟩
  have hE10 : Ext w9 w10 := by rw [hw10]; exact (ExtX.refl w9).drewN _
  clear hw10
  have hX10 := hX9.ext hE10
  have hee : ([0, 1] == [0, 1]) = true := by decide
  rw [hee]
  clear hee
  go_wp2_with fail
  refine (rqfrom noY w10 1 hX10 (by omega) (by omega)).mono ?_
  rintro e w11 ⟨hE11, u11, rfl, hu11⟩
  obtain ⟨s11, a11, n11, c11, d11, k11, e11, rfl⟩ := hu11.shape
  have hX11 := hX10.ext hE11
  have hA := rc_lit2 (e := 31) hX11 hu11 (QC.zero _) rfl
  go_wp2_with fail
  obtain ⟨w12, hw12, hE12⟩ : ∃ w12, w11.alloc (.cells (cellsL (.agg #[.bool s11, .slice a11 n11 c11, .slice d11 k11 e11]) ++ cellsL (.agg #[.bool false, .slice none 0 0, .slice none 0 0])).toArray 31) = w12 ∧ Ext w11 w12 := ⟨_, rfl, (ExtX.refl w11).alloc _⟩
  change Calls _ _ _ (w11.alloc (.cells (cellsL (.agg #[.bool s11, .slice a11 n11 c11, .slice d11 k11 e11]) ++ cellsL (.agg #[.bool false, .slice none 0 0, .slice none 0 0])).toArray 31)) _
  rw [hw12] at hA ⊢
  obtain ⟨b11, hb11⟩ : ∃ b, w11.heap.size = b := ⟨_, rfl⟩
  rw [hb11] at hA ⊢
  clear hw12 hb11
  have hX12 := hX11.ext hE12
  refine (rqfrom noY w12 1 hX12 (by omega) (by omega)).mono ?_
  rintro e w13 ⟨hE13, u13, rfl, hu13⟩
  obtain ⟨s13, a13, n13, c13, d13, k13, e13, rfl⟩ := hu13.shape
  have hX13 := hX12.ext hE13
  have hB := rc_lit2 (e := 31) hX13 (QC.zero _) hu13 rfl
  have hE14 : Ext w13 (w13.alloc (.cells (cellsL (.agg #[.bool false, .slice none 0 0, .slice none 0 0]) ++ cellsL (.agg #[.bool s13, .slice a13 n13 c13, .slice d13 k13 e13])).toArray 31)) := (ExtX.refl w13).alloc _
  have hX14 := hX13.ext hE14
  have hA14 := mkx RC.mono hA (hE13.trans hE14)
  have hM := mc_lit2 (e := 33) hX14 hA14 hB rfl
  have hE15 : Ext w13 ((w13.alloc (.cells (cellsL (.agg #[.bool false, .slice none 0 0, .slice none 0 0]) ++ cellsL (.agg #[.bool s13, .slice a13 n13 c13, .slice d13 k13 e13])).toArray 31)).alloc (.cells (cellsL (.slice (some ⟨b11, 0, none⟩) 2 2) ++ cellsL (.slice (some ⟨w13.heap.size, 0, none⟩) 2 2)).toArray 33)) := hE14.alloc _
  go_wp2_with fail
  change Calls _ _ _ ((w13.alloc (.cells (cellsL (.agg #[.bool false, .slice none 0 0, .slice none 0 0]) ++ cellsL (.agg #[.bool s13, .slice a13 n13 c13, .slice d13 k13 e13])).toArray 31)).alloc (.cells (cellsL (.slice (some ⟨b11, 0, none⟩) 2 2) ++ cellsL (.slice (some ⟨w13.heap.size, 0, none⟩) 2 2)).toArray 33)) _
  have hM7 : MC (mk noY ((w13.alloc (.cells (cellsL (.agg #[.bool false, .slice none 0 0, .slice none 0 0]) ++ cellsL (.agg #[.bool s13, .slice a13 n13 c13, .slice d13 k13 e13])).toArray 31)).alloc (.cells (cellsL (.slice (some ⟨b11, 0, none⟩) 2 2) ++ cellsL (.slice (some ⟨w13.heap.size, 0, none⟩) 2 2)).toArray 33))) (.slice (some ⟨w13.heap.size + 1, 0, none⟩) 2 2) [[1, 0], [0, 1]] := by
    have e1 : ((1 : Int) : Rat) = 1 := by decide +kernel
    rw [e1] at hM
    simpa using hM
  obtain ⟨w15, hw15⟩ : ∃ w15, ((w13.alloc (.cells (cellsL (.agg #[.bool false, .slice none 0 0, .slice none 0 0]) ++ cellsL (.agg #[.bool s13, .slice a13 n13 c13, .slice d13 k13 e13])).toArray 31)).alloc (.cells (cellsL (.slice (some ⟨b11, 0, none⟩) 2 2) ++ cellsL (.slice (some ⟨w13.heap.size, 0, none⟩) 2 2)).toArray 33)) = w15 := ⟨_, rfl⟩
  rw [hw15] at hM7 hE15 ⊢
  clear hM hw15 hA hB hA14 hE14
  have hEe : Ext w8 w15 := (hE9.trans (hE10.trans (hE11.trans (hE12.trans hE13)))).trans hE15
  have hr15 : MC (mk noY w15) (.slice ao 2 ca) [[1, 0], [0, 1]] := ⟨ao, ca, rfl, hca, hsa.mono RC.mono (mk_ext hEe)⟩
  have hbm2 : BM 68719476736 [[1, 0], [0, 1]] := by
    intro r hr q hqm
    have h0 : hq 0 ≤ 68719476736 := Nat.le_trans (hq_small (z := 0) (by decide)) (by decide)
    have h1 : hq 1 ≤ 68719476736 := Nat.le_trans (hq_small (z := 1) (by decide)) (by decide)
    simp only [List.mem_cons, List.not_mem_nil, or_false] at hr
    rcases hr with rfl | rfl <;> simp only [List.mem_cons, List.not_mem_nil, or_false] at hqm <;> rcases hqm with rfl | rfl <;> assumption
  have hrl2 : ∀ r ∈ [[(1 : Rat), 0], [0, 1]], r.length ≤ 1099511627776 := by
    intro r hr
    simp only [List.mem_cons, List.not_mem_nil, or_false] at hr
    rcases hr with rfl | rfl <;> simp
  have hsl := rqsamelists noY w15 _ _ _ _ hr15 hM7 hbm2 (by simp) hrl2
  have hee : decide ([[(1 : Rat), 0], [0, 1]] = [[1, 0], [0, 1]]) = true := decide_eq_true rfl
  rw [hee] at hsl
  refine hsl.mono ?_
  rintro e w16 ⟨hE16, rfl⟩
  go_wp2_with fail
  go_ret
  exact ⟨hE07.trans (hE8.trans (hEe.trans hE16)), rfl⟩
end Go.Proofs.YtjbhcniiioepgaaGreat

namespace Go.Proofs.YtjbhcniiioepgaaGreat
open Go.RowKit Go.Rep Go.Lim Go.Lin

theorem natO {z : Int} (h : 0 ≤ z) : ∃ k : Nat, z = (k : Int) := Int.eq_ofNat_of_zero_le h
theorem atL_rng {l : List Int} (h : ∀ x ∈ l, -9223372036854775808 ≤ x ∧ x ≤ 9223372036854775807) (i : Nat) : -9223372036854775808 ≤ atL l i ∧ atL l i ≤ 9223372036854775807 := by
  unfold atL
  by_cases hi : i < l.length
  · rw [List.getD_eq_getElem?_getD, List.getElem?_eq_getElem hi]; exact h _ (List.getElem_mem _)
  · rw [List.getD_eq_getElem?_getD, List.getElem?_eq_none (by omega)]; exact ⟨by decide, by decide⟩

set_option maxRecDepth 100000 in
set_option maxHeartbeats 1600000 in
theorem sol_any (w : World) (d1 d2 : Int) (ao bo co : Option Addr) (ra rb rc : List Int) (ca cb cc : Nat) (h1 : 0 ≤ d1) (h1' : d1 < 256) (h2 : 0 ≤ d2) (h2' : d2 < 256) (hsa : Sl (IntIn .i64) 1 (mk noY w) ao ra) (hra : ∀ x ∈ ra, -9223372036854775808 ≤ x ∧ x ≤ 9223372036854775807) (hsb : Sl (IntIn .i64) 1 (mk noY w) bo rb) (hrb : ∀ x ∈ rb, -9223372036854775808 ≤ x ∧ x ≤ 9223372036854775807) (hsc : Sl (IntIn .i64) 1 (mk noY w) co rc) (hrc : ∀ x ∈ rc, -9223372036854775808 ≤ x ∧ x ≤ 9223372036854775807) :
    Calls Tryz.prog 9 #[.int .u8 d1, .int .u8 d2, .slice ao ra.length ca, .slice bo rb.length cb, .slice co rc.length cc] w (BOut w true) := by
  have hX := HX.none w
  obtain ⟨n, hn⟩ := natO (show 0 ≤ 1 + d1 % 4 by omega)
  obtain ⟨k, hk⟩ := natO (show 0 ≤ 1 + d2 % 4 by omega)
  have hn1 : 1 ≤ n ∧ n ≤ 4 := by omega
  have hk1 : 1 ≤ k ∧ k ≤ 4 := by omega
  obtain ⟨m, hm⟩ : ∃ m, matL n k ra = m := ⟨_, rfl⟩
  have hsh : Shp n k m := by rw [← hm]; exact matL_shp n k ra
  have hbm : BM 2 m := by rw [← hm]; exact matL_bm n k ra
  obtain ⟨x0, hx0⟩ : ∃ x0, vecL k rb = x0 := ⟨_, rfl⟩
  have hxl : x0.length = k := by rw [← hx0]; exact vecL_len k rb
  have hxb : BR 2 x0 := by rw [← hx0]; exact vecL_br k rb
  have hf : formedB m = true := shpf hsh (by omega) (by omega) (by omega)
  have hcm : colsL m = k := shpc hsh (by omega)
  have big : ∀ {B : Nat}, BM B m → B ≤ 68719476736 → BM 68719476736 m := fun h hB r hr q hq => Nat.le_trans (h r hr q hq) hB
  have bigr : ∀ {l : List Rat} {B : Nat}, BR B l → B ≤ 68719476736 → BR 68719476736 l := fun h hB q hq => Nat.le_trans (h q hq) hB
  have hbm5 : BM 50000000 m := fun r hr q hq => Nat.le_trans (hbm r hr q hq) (by decide)
  have hM1 := matrix_any noY w n k ao ra ca hX hsa (by omega) (by omega) hra
  rw [hm] at hM1
  have hV1 := hid (fun w' (h : Ext w w') => vector_any noY w' k bo rb cb (hX.ext h) (hsb.mono (IntIn.mono _) (mk_ext h)) (by omega) hrb)
  rw [hx0] at hV1
  have hap := hid (fun w' u v x (hu : MC (mk noY w') u m) (hv : RC (mk noY w') v x) (hb : BR 50000000 x) (hl : x.length = k) => apply_ok noY w' u v m x 50000000 (HX.none w') (hu.mv (big hbm (by decide))) (hv.rv (bigr hb (by decide))) hf (by rw [hcm]; exact hl) hbm5 hb (by decide) (by decide))
  obtain ⟨b, hb⟩ : ∃ b, appL m x0 = b := ⟨_, rfl⟩
  have hbl : b.length = n := by rw [← hb, appL_len]; exact hsh.1
  obtain ⟨tw, tm, hbb, hnp, hsl, hN, hNl, hxs⟩ := sol_facts (f := fun i => numQ (atL rc i)) hn1.2 hk1.2 hsh hbm hxb hb (fun i => numQ_hq _)
  have hso := hid (fun w' u v (hu : MC (mk noY w') u m) (hv : RC (mk noY w') v b) => solve_ok noY w' u v m b n k (HX.none w') (hu.mv (big hbm (by decide))) (hv.rv (bigr hbb (by decide))) hf hsh.1 hcm hbl tw)
  have hnu := hid (fun w' u (hu : MC (mk noY w') u m) => null_ok noY w' u m n k (HX.none w') (hu.mv (big hbm (by decide))) hf hsh.1 hcm tm)
  have hsame := hid (fun w' u v (hu : RC (mk noY w') u b) (hv : RC (mk noY w') v b) => show Calls Tryz.prog 52 #[u, v] w' (BOut w' true) from by
    have := rqsamelist noY w' u v b b hu hv (bigr hbb (by decide)) (by rw [hbl]; omega)
    rwa [decide_eq_true (rfl : b = b)] at this)
  obtain ⟨S, hS⟩ : ∃ S, redP (wideB m b n) (k + 1) = S := ⟨_, rfl⟩
  obtain ⟨L, hL⟩ : ∃ L, nullL (ent (redP m k).1) (redP m k).2 k = L := ⟨_, rfl⟩
  unfold SolOut at hso
  rw [hS] at hnp hsl hxs hso
  rw [hL] at hN hNl hxs hnu
  obtain ⟨x, hx⟩ : ∃ x, solL S.1 S.2 k = x := ⟨_, rfl⟩
  rw [hx] at hsl hxs hso
  have hnp' := hid hnp
  have hxs' := hid hxs
  have hN' := hid hN
  have hn' := hid hn
  have hk' := hid hk
  have hx0b : Hid (BR 50000000 x0) := hid fun q hq => Nat.le_trans (hxb q hq) (by decide)
  have hx0l := hid hxl
  have hsl' := hid hsl
  have hbl' := hid hbl
  have hb' := hid hb
  have hsc' := hid (fun w' (h : Ext w w') => hsc.mono (IntIn.mono _) (mk_ext h))
  have hrc' := hid (atL_rng hrc)
  have hat := hid (fun w' i (h : Ext w w') (hi : i ≤ 1000000) => at_any noY w' co rc cc i (hsc'.out w' h) hi)
  obtain ⟨nl, hnl⟩ : ∃ nl, L.length = nl := ⟨_, rfl⟩
  rw [hnl] at hNl
  have hnl' := hid hnl
  clear big bigr hsh hbm hxb hxl hf hcm hbm5 hbl hbb tw tm hnp hsl hN hxs hS hL hx hm hx0 hb hn hk hra hrb hrc hsa hsb hsc hnl
  go_enter Tryz.func9, Tryz.ntmps9
  go_wp2_with fail
  rw [hn'.out, hk'.out]
  refine hM1.mono ?_
  rintro e w1 ⟨hE1, um, rfl, hum⟩
  clear h1 h1' h2 h2'
  go_wp2_with fail
  refine (hV1.out w1 hE1).mono ?_
  rintro e w2 ⟨hE2, uv, rfl, huv⟩
  go_wp2_with fail
  refine (hap.out w2 _ _ _ (mkx MC.mono hum hE2) huv hx0b.out hx0l.out).mono ?_
  rw [hb'.out]
  rintro e w3 ⟨hE3, ub, rfl, hub⟩
  go_wp2_with fail
  refine (hso.out w3 _ _ (mkx MC.mono hum (hE2.trans hE3)) hub).mono ?_
  rintro e w4 ⟨hE4, ⟨hbad, rfl⟩ | ⟨_, ux, rfl, hux⟩⟩
  · exact absurd hbad hnp'.out
  obtain ⟨xa, xc, rfl, hxc, hxa⟩ := hux
  have hux : RC (mk noY w4) (.slice xa x.length xc) x := ⟨xa, xc, rfl, hxc, hxa⟩
  rw [hsl'.out] at hux ⊢
  have hE14 := hE2.trans (hE3.trans hE4)
  go_wp2_with fail
  refine (hnu.out w4 _ (mkx MC.mono hum hE14)).mono ?_
  rintro e w5 ⟨hE5, ul, rfl, hul⟩
  obtain ⟨la, lc, rfl, hlc, hla⟩ := hul
  rw [hnl'.out]
  have hkk : ((k : Int) != (k : Int)) = false := bneF rfl
  have hhl : Hd la nl := by have := hla.hd; rw [hnl'.out] at this; exact this
  have hux5 := mkx RC.mono hux hE5
  have hE05 := hE1.trans (hE14.trans hE5)
  have hum5 := mkx MC.mono hum (hE14.trans hE5)
  have hub5 := mkx RC.mono hub (hE4.trans hE5)
  clear hux hum hub hxa huv
  go_wp2_with fail
  go_loopw [16, 20] (fun xv iv wr => ∃ (i : Nat) (xw : Value), iv = .int .i64 i ∧ xw = xv ∧ i ≤ nl ∧ RC (mk noY wr) xw (xS x L (fun i => numQ (atL rc i)) i) ∧ Ext w5 wr) (fun _ iv _ => nl - (intOf iv).toNat)
  case atStart => exact ⟨0, _, rfl, rfl, Nat.zero_le _, hux5, ExtX.refl _⟩
  case round =>
    obtain ⟨i, xv, rfl, rfl, hi, hxr, hE⟩ := hrel
    by_cases hlt : i < nl
    · have hiL : i < L.length := by rw [hnl'.out]; exact hlt
      obtain ⟨a1, c1, hX1, hc1, hcl1, hq1⟩ := (hla.mono RC.mono (mk_ext hE)).row i hiL
      have hNi := hN'.out L[i] (List.getElem_mem _)
      have hxsi := hxs'.out i (by rw [hnl'.out]; omega)
      have hst : Hid (List.zipWith (· + ·) (xS x L (fun i => numQ (atL rc i)) i) (L[i].map (· * numQ (atL rc i))) = xS x L (fun i => numQ (atL rc i)) (i + 1)) := hid (by
        show _ = List.zipWith _ _ ((L.getD i []).map _)
        rw [show L.getD i [] = L[i] by simp [List.getD_eq_getElem?_getD, hiL]])
      have k00 := hc1.out noY wr (ExtX.refl _) rfl
      obtain ⟨l, hl⟩ : ∃ l, L[i] = l := ⟨_, rfl⟩
      obtain ⟨X0, hX0⟩ : ∃ X0, xS x L (fun i => numQ (atL rc i)) i = X0 := ⟨_, rfl⟩
      obtain ⟨X2, hX2⟩ : ∃ X2, xS x L (fun i => numQ (atL rc i)) (i + 1) = X2 := ⟨_, rfl⟩
      rw [hl] at k00 hcl1 hq1 hNi hst hc1
      rw [hX0] at hxr hxsi hst
      rw [hX2] at hst
      rw [hNi.1] at k00 hcl1 hc1
      have hX2' := hid hX2
      have hNl' := hid hNi
      have hxsi' := hid hxsi
      have hEd : Ext wr wr.drew := (ExtX.refl wr).drew
      have hE0 := hE05.trans (hE.trans hEd)
      have hS : Hid (∀ W', Ext wr.drew W' → W'.cell? (adr la i) = some (.slice a1 k c1)) := hid fun W' h => hc1.out noY W' (hEd.trans h) rfl
      have k10 := hS.out wr.drew (ExtX.refl _)
      have hlr : RC (mk noY wr.drew) (.slice a1 k c1) l := ⟨a1, c1, by rw [hNl'.out.1], by rw [hNl'.out.1]; exact hcl1, hq1⟩
      have hxd : RC (mk noY wr.drew) xv X0 := hxr
      have i1 : ∀ W, (Instr.indexAt 23 (.slice la nl lc) (.int .i64 (i : Int))).run Tryz.prog W = .ok (.pointer (some (adr la i))) W := run_ix1 slRats la nl lc .i64 i hhl (by omega) rfl
      have hat1 := hat.out wr.drew i hE0 (by omega)
      have hnum := number_any noY wr.drew (atL rc i) (HX.none _) (hrc'.out i).1 (hrc'.out i).2
      obtain ⟨z, hz⟩ : ∃ z, atL rc i = z := ⟨_, rfl⟩
      rw [hz] at hat1 hnum hst
      obtain ⟨y, hy⟩ : ∃ y, numQ z = y := ⟨_, rfl⟩
      have hyq := hid (numQ_hq z)
      rw [hy] at hnum hst hyq
      have hsum := hid (fun w' uy (hE : Ext wr.drew w') (huy : QC (mk noY w') uy y) => sum_any noY w' xv (.slice a1 k c1) uy X0 l y 3001250 (HX.none _) ((mkx RC.mono hxd hE).rv (fun q hq => Nat.le_trans (hxsi'.out.2.1 q hq) (by decide))) ((mkx RC.mono hlr hE).rv (fun q hq => Nat.le_trans (hNl'.out.2 q hq) (by decide))) (huy.qv (Nat.le_trans hyq.out (by decide))) (by rw [hxsi'.out.1]; omega) (by rw [hxsi'.out.1, hNl'.out.1]) hNl'.out.2 (by have := hyq.out; omega))
      rw [hst.out] at hsum
      clear hl hX0 hX2 hz hy hc1 hq1 hNi hxsi hst
      go_wp2_with (with_reducible refine up_ix1 slRats (by omega) (by assumption) ?_)
      go_region_held3 (fun w' => w'.cell? (adr la i) = some (.slice a1 k c1))
        (first | exact hS.out _ t2 | exact hS.out _ t1 | exact hS.out _ (ExtX.refl _) | go_keep)
        (first | (go_at_call 59; (with_reducible refine hat1.mono ?_); rintro ee w6 ⟨rfl, rfl⟩) | (go_at_call 17; (with_reducible refine hnum.mono ?_); rintro ee w7 ⟨t1, uy, rfl, huy⟩) | (go_at_call 18; (with_reducible refine (hsum.out w7 uy t1 huy).mono ?_); rintro ee w8 ⟨t3, ux8, rfl, hux8⟩; have t2 := t1.trans t3))
      rw [← hX2'.out] at hux8
      have hE8 := hE.trans (hEd.trans t2)
      clear k00 k10 i1
      go_wp2_with fail
      go_roundw
      case rel => exact ⟨i + 1, _, by go_num, rfl, by omega, hux8, hE8⟩
      case measure => simp [intOf]; omega
    · have hin : i = nl := by omega
      subst hin
      obtain ⟨z1, z2, z3⟩ := hxs'.out i (by rw [hnl'.out]; exact Nat.le_refl _)
      have hap9 := hap.out wr _ _ _ (mkx MC.mono hum5 hE) hxr z2 z1
      rw [z3] at hap9
      clear z1 z2 z3
      go_wp2_with fail
      refine hap9.mono ?_
      rintro e w8 ⟨hE8, uc, rfl, huc⟩
      go_wp2_with fail
      refine (awake6_any w8).mono ?_
      rintro e w9 ⟨hE9, rfl⟩
      go_wp2_with fail
      refine (hsame.out w9 _ _ (mkx RC.mono hub5 (hE.trans (hE8.trans hE9))) (mkx RC.mono huc hE9)).mono ?_
      rintro e w10 ⟨hE10, rfl⟩
      go_wp2_with fail
      go_ret
      exact ⟨hE05.trans (hE.trans (hE8.trans (hE9.trans hE10))), rfl⟩
end Go.Proofs.YtjbhcniiioepgaaGreat

namespace Go.Proofs.YtjbhcniiioepgaaGreat
open Go.ChangeShapes Go.WideShapes Go.ChangeAt Go.RowKit Go.Rep Go.Deep

section
variable {H : Type} {enc : TypeId × Value → H} {w : World} {base : Nat} {spare : Nat → Bool} {held : Bool}

theorem adr_some {x : Addr} {v : Value} (h : w.cell? (x.add 0) = some v) : (∀ j, x.add j = adr (some x) j) ∧ ∃ b off, x = ⟨b, off, none⟩ := by
  have hs := World.cell?_spot h
  obtain ⟨b, off, spot⟩ := x
  have hspot : spot = none := by simpa [Addr.add] using hs
  subst hspot
  exact ⟨fun j => by rw [Addr.add_lit]; simp [adr], b, off, rfl⟩

theorem ints_of {fuel : Nat} {v : Value} {x : DataW H × List MemPlace} (h : DataW.trod enc Tryz.prog w base spare held fuel 22 [v] = some x) :
    ∃ (a : Option Addr) (l : List Int) (cap : Nat), v = .slice a l.length cap ∧ l.length ≤ cap ∧ l.length ≤ 9223372036854775807 ∧ Sl (IntIn .i64) 1 w.cell? a l := by
  rcases open_ints Tryz.underlying22 Tryz.underlying3 (by kernel_rfl) h with ⟨hcs, _⟩ | ⟨x, len, c, zs, hcs, _, hl, hm, hz, _, hcell, _⟩
  · refine ⟨none, [], 0, by simpa using hcs, by simp, by simp, Sl.nil _ _ _ _⟩
  · have hzl : len ≤ zs.length := by
      rw [hz]; split <;> omega
    have hlen : (zs.take len).length = len := by simp; omega
    have hmax : c ≤ 9223372036854775807 := by simpa [maxLen] using hm
    refine ⟨some x, zs.take len, c, by rw [hlen]; simpa using hcs, by omega, by omega, fun h0 => ?_, fun i hi => ?_⟩
    · obtain ⟨_, b, off, hx⟩ := adr_some (hcell 0 (by omega))
      exact ⟨b, off, by rw [hx]⟩
    · have hi' : i < zs.length := by omega
      refine ⟨.int .i64 (zs.take len)[i], rfl, fun j hj => ?_, rfl⟩
      have hj0 : j = 0 := by simp [Value.cells] at hj; exact hj
      subst hj0
      have h1 := hcell i hi'
      have h2 := (adr_some (hcell 0 (by omega))).1 i
      rw [h2] at h1
      simp only [Nat.mul_one, Nat.add_zero, List.getElem_take]
      rw [h1]
      simp [List.getD_eq_getElem?_getD, hi', Value.cells]

end
end Go.Proofs.YtjbhcniiioepgaaGreat

namespace Go.Proofs.YtjbhcniiioepgaaGreat
open Go.ChangeShapes Go.WideShapes Go.ChangeAt Go.RowKit Go.Rep Go.Deep
theorem rng_i64 {n : Int} (h : (Lit.int .i64 n).wf = true) : -9223372036854775808 ≤ n ∧ n ≤ 9223372036854775807 := by
  unfold Lit.wf at h
  simpa [IntKind.min, IntKind.max, IntKind.signed, IntKind.bits] using h
theorem rng_u8 {n : Int} (h : (Lit.int .u8 n).wf = true) : 0 ≤ n ∧ n < 256 := by
  unfold Lit.wf at h
  have : 0 ≤ n ∧ n ≤ 255 := by simpa [IntKind.min, IntKind.max, IntKind.signed, IntKind.bits] using h
  omega
section
variable {H : Type} {enc : TypeId × Value → H} {P : Program} {w : World} {base : Nat} {spare : Nat → Bool} {held : Bool}
theorem trodAll_six {t0 t1 t2 t3 t4 t5 : TypeId} {args : Array Value} {ds : List (DataW H)} {ps : List MemPlace} (h : DataW.TrodAll enc P w base spare held [t0, t1, t2, t3, t4, t5] args.toList ds ps) :
    ∃ v0 v1 v2 v3 v4 v5 d0 d1 d2 d3 d4 d5 p0 p1 p2 p3 p4 p5, args = #[v0, v1, v2, v3, v4, v5] ∧ ds = [d0, d1, d2, d3, d4, d5] ∧ ps = p0 ++ (p1 ++ (p2 ++ (p3 ++ (p4 ++ p5)))) ∧ DataW.Trod enc P w base spare held t0 v0 d0 p0 ∧ DataW.Trod enc P w base spare held t1 v1 d1 p1 ∧ DataW.Trod enc P w base spare held t2 v2 d2 p2 ∧ DataW.Trod enc P w base spare held t3 v3 d3 p3 ∧ DataW.Trod enc P w base spare held t4 v4 d4 p4 ∧ DataW.Trod enc P w base spare held t5 v5 d5 p5 := by
  obtain ⟨v0, vs0, d0, ds0, p0, q0, hargs, rfl, rfl, h0, r0⟩ := trodAll_cons h
  obtain ⟨v1, vs1, d1, ds1, p1, q1, rfl, rfl, rfl, h1, r1⟩ := trodAll_cons r0
  obtain ⟨v2, vs2, d2, ds2, p2, q2, rfl, rfl, rfl, h2, r2⟩ := trodAll_cons r1
  obtain ⟨v3, vs3, d3, ds3, p3, q3, rfl, rfl, rfl, h3, r3⟩ := trodAll_cons r2
  obtain ⟨v4, vs4, d4, ds4, p4, q4, rfl, rfl, rfl, h4, r4⟩ := trodAll_cons r3
  obtain ⟨v5, vs5, d5, ds5, p5, q5, rfl, rfl, rfl, h5, r5⟩ := trodAll_cons r4
  obtain ⟨rfl, rfl, rfl⟩ := trodAll_nil r5
  refine ⟨v0, v1, v2, v3, v4, v5, d0, d1, d2, d3, d4, d5, p0, p1, p2, p3, p4, p5, ?_, rfl, by simp, h0, h1, h2, h3, h4, h5⟩
  cases args; simp_all
theorem trodAll_three' {t0 t1 t2 : TypeId} {args : Array Value} {ds : List (DataW H)} {ps : List MemPlace} (h : DataW.TrodAll enc P w base spare held [t0, t1, t2] args.toList ds ps) :
    ∃ v0 v1 v2 d0 d1 d2 p0 p1 p2, args = #[v0, v1, v2] ∧ ds = [d0, d1, d2] ∧ ps = p0 ++ (p1 ++ p2) ∧ DataW.Trod enc P w base spare held t0 v0 d0 p0 ∧ DataW.Trod enc P w base spare held t1 v1 d1 p1 ∧ DataW.Trod enc P w base spare held t2 v2 d2 p2 := by
  obtain ⟨v0, vs0, d0, ds0, p0, q0, hargs, rfl, rfl, h0, r0⟩ := trodAll_cons h
  obtain ⟨v1, vs1, d1, ds1, p1, q1, rfl, rfl, rfl, h1, r1⟩ := trodAll_cons r0
  obtain ⟨v2, vs2, d2, ds2, p2, q2, rfl, rfl, rfl, h2, r2⟩ := trodAll_cons r1
  obtain ⟨rfl, rfl, rfl⟩ := trodAll_nil r2
  refine ⟨v0, v1, v2, d0, d1, d2, p0, p1, p2, ?_, rfl, by simp, h0, h1, h2⟩
  cases args; simp_all
theorem trodAll_two' {t0 t1 : TypeId} {args : Array Value} {ds : List (DataW H)} {ps : List MemPlace} (h : DataW.TrodAll enc P w base spare held [t0, t1] args.toList ds ps) :
    ∃ v0 v1 d0 d1 p0 p1, args = #[v0, v1] ∧ ds = [d0, d1] ∧ ps = p0 ++ p1 ∧ DataW.Trod enc P w base spare held t0 v0 d0 p0 ∧ DataW.Trod enc P w base spare held t1 v1 d1 p1 := by
  obtain ⟨v0, vs0, d0, ds0, p0, q0, hargs, rfl, rfl, h0, r0⟩ := trodAll_cons h
  obtain ⟨v1, vs1, d1, ds1, p1, q1, rfl, rfl, rfl, h1, r1⟩ := trodAll_cons r0
  obtain ⟨rfl, rfl, rfl⟩ := trodAll_nil r1
  refine ⟨v0, v1, d0, d1, p0, p1, ?_, rfl, by simp, h0, h1⟩
  cases args; simp_all
theorem trodAll_five' {t0 t1 t2 t3 t4 : TypeId} {args : Array Value} {ds : List (DataW H)} {ps : List MemPlace} (h : DataW.TrodAll enc P w base spare held [t0, t1, t2, t3, t4] args.toList ds ps) :
    ∃ v0 v1 v2 v3 v4 d0 d1 d2 d3 d4 p0 p1 p2 p3 p4, args = #[v0, v1, v2, v3, v4] ∧ ds = [d0, d1, d2, d3, d4] ∧ ps = p0 ++ (p1 ++ (p2 ++ (p3 ++ p4))) ∧ DataW.Trod enc P w base spare held t0 v0 d0 p0 ∧ DataW.Trod enc P w base spare held t1 v1 d1 p1 ∧ DataW.Trod enc P w base spare held t2 v2 d2 p2 ∧ DataW.Trod enc P w base spare held t3 v3 d3 p3 ∧ DataW.Trod enc P w base spare held t4 v4 d4 p4 := by
  obtain ⟨v0, vs0, d0, ds0, p0, q0, hargs, rfl, rfl, h0, r0⟩ := trodAll_cons h
  obtain ⟨v1, vs1, d1, ds1, p1, q1, rfl, rfl, rfl, h1, r1⟩ := trodAll_cons r0
  obtain ⟨v2, vs2, d2, ds2, p2, q2, rfl, rfl, rfl, h2, r2⟩ := trodAll_cons r1
  obtain ⟨v3, vs3, d3, ds3, p3, q3, rfl, rfl, rfl, h3, r3⟩ := trodAll_cons r2
  obtain ⟨v4, vs4, d4, ds4, p4, q4, rfl, rfl, rfl, h4, r4⟩ := trodAll_cons r3
  obtain ⟨rfl, rfl, rfl⟩ := trodAll_nil r4
  refine ⟨v0, v1, v2, v3, v4, d0, d1, d2, d3, d4, p0, p1, p2, p3, p4, ?_, rfl, by simp, h0, h1, h2, h3, h4⟩
  cases args; simp_all
theorem ints_wf {fuel : Nat} {v : Value} {x : DataW H × List MemPlace} (h : DataW.trod enc Tryz.prog w base spare held fuel 22 [v] = some x) :
    ∃ (a : Option Addr) (l : List Int) (cap : Nat), v = .slice a l.length cap ∧ l.length ≤ cap ∧ l.length ≤ 9223372036854775807 ∧ Sl (IntIn .i64) 1 (mk noY w) a l ∧ ∀ x ∈ l, -9223372036854775808 ≤ x ∧ x ≤ 9223372036854775807 := by
  rw [mk_noY]
  rcases open_ints Tryz.underlying22 Tryz.underlying3 (by kernel_rfl) h with ⟨hcs, _⟩ | ⟨x, len, c, zs, hcs, _, hl, hm, hz, _, hcell, hwf⟩
  · refine ⟨none, [], 0, by simpa using hcs, by simp, by simp, Sl.nil _ _ _ _, by simp⟩
  · have hzl : len ≤ zs.length := by
      rw [hz]; split <;> omega
    have hlen : (zs.take len).length = len := by simp; omega
    have hmax : c ≤ 9223372036854775807 := by simpa [maxLen] using hm
    refine ⟨some x, zs.take len, c, by rw [hlen]; simpa using hcs, by omega, by omega, ⟨fun h0 => ?_, fun i hi => ?_⟩, fun y hy => rng_i64 (hwf y (List.mem_of_mem_take hy))⟩
    · obtain ⟨_, b, off, hx⟩ := adr_some (hcell 0 (by omega))
      exact ⟨b, off, by rw [hx]⟩
    · have hi' : i < zs.length := by omega
      refine ⟨.int .i64 (zs.take len)[i], rfl, fun j hj => ?_, rfl⟩
      have hj0 : j = 0 := by simp [Value.cells] at hj; exact hj
      subst hj0
      have h1 := hcell i hi'
      have h2 := (adr_some (hcell 0 (by omega))).1 i
      rw [h2] at h1
      simp only [Nat.mul_one, Nat.add_zero, List.getElem_take]
      rw [h1]
      simp [List.getD_eq_getElem?_getD, hi', Value.cells]
end
end Go.Proofs.YtjbhcniiioepgaaGreat

namespace Go.Proofs.YtjbhcniiioepgaaGreat.seat
open Go.RowKit
theorem and_t {a b : Bool} (h1 : a = true) (h2 : b = true) : (a && b) = true := by rw [h1, h2]; rfl
theorem laid : laidOutB Tryz.pinned.checked.prog = true := by kernel_rfl
theorem maps : mapsRowed Tryz.pinned.checked.prog = true := by kernel_rfl
theorem stops : (Program.stops Tryz.pinned.checked.prog == []) = true := by kernel_rfl
theorem knobs : (Program.stopKnobs Tryz.pinned.checked.prog == []) = true := by kernel_rfl
theorem heard : Program.stopsHeard Tryz.pinned.checked.prog = true := by kernel_rfl
theorem enter : Program.mayEnter Tryz.pinned.checked.prog = true := by kernel_rfl
theorem lifts : (Rows.matrixReducedFormIsUniqueRow.lifted == Program.liftsFinal Tryz.pinned.checked.prog) = true := by kernel_rfl
theorem make : (Program.make Tryz.pinned.checked.prog == some Rows.matrixReducedFormIsUniqueRow.make) = true := by kernel_rfl
theorem plain : (Rows.matrixReducedFormIsUniqueRow.plainKeys == Program.plainKeys Tryz.pinned.checked.prog) = true := by kernel_rfl
end Go.Proofs.YtjbhcniiioepgaaGreat.seat
