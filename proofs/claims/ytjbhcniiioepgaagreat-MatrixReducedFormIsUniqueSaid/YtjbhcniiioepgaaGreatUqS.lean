/- reference 03: Same. Conditions: at most 2^36 digits. reference 03: SameList, SameLists. Conditions: at most 2^36 digits. reference 03: SameLists. Conditions: at most 2^36 digits. law 06: awake. Conditions: none. Rows turned as law 06 turns them. Conditions: none. law 06: MatrixReducedFormIsUnique returns true. Conditions: none but Go's own. Arguments, opened to lists: []int. Conditions: none. Arguments, opened: six of them; bounds of integers; []int with its numbers' bounds. Conditions: none. Facts of the whole program that each row asks for. Conditions: none. -/
import Derived.Test.YtjbhcniiioepgaaGreatUqR
import Derived.BigRegion
import Derived.WalkKit
import Derived.ProofKit
import Derived.OpenShut
import Derived.ShutString
import Derived.ChangeOld
import Derived.Below
import Derived.Deep.Slices
import Derived.Deep.Fields
import Derived.ChangeSame
import Derived.Test.YtjbhcniiioepgaaGreatRows
import Derived.JoinedOf
namespace Go.Proofs.YtjbhcniiioepgaaGreat
open Go.RowKit Go.Rep Go.Lim

set_option maxRecDepth 100000 in
theorem rqsame (X : Nat → Bool) (w : World) (u v : Value) (x y : Rat) (hu : QC (mk X w) u x) (hv : QC (mk X w) v y) (hx : hq x ≤ 68719476736) : Calls Tryz.prog 41 #[u, v] w (BOut w (decide (x = y))) := by
  replace hx := hid hx
  obtain ⟨s1, a1, n1, c1, d1, k1, e1, rfl⟩ := hu.shape
  obtain ⟨s2, a2, n2, c2, d2, k2, e2, rfl⟩ := hv.shape
  obtain ⟨W, hW, hE, b0, b1, hz⟩ := boxes2 w #[.bool s1, .slice a1 n1 c1, .slice d1 k1 e1] #[.bool s2, .slice a2 n2 c2, .slice d2 k2 e2] 31 31
  have hu1 := mkx QC.mono hu hE
  have hv1 := mkx QC.mono hv hE
  obtain ⟨b, hb⟩ : ∃ b, w.heap.size = b := ⟨_, rfl⟩
  rw [hb] at b0 b1 hz
  have k00 := b0.cell 0 rfl
  have k01 := b0.cell 1 rfl
  have k02 := b0.cell 2 rfl
  have k10 := b1.cell 0 rfl
  have k11 := b1.cell 1 rfl
  have k12 := b1.cell 2 rfl
  clear hu hv
  obtain ⟨hxz, _, hxd⟩ := hu1.num
  obtain ⟨hyz, _, hyd⟩ := hv1.num
  have hl1 := hid (Nat.le_trans (hq_num x) (Nat.le_trans hx.out (by decide : (68719476736 : Nat) ≤ 1099511627776)))
  have hl2 := hid (Nat.le_trans (hq_dn x) (Nat.le_trans hx.out (by decide : (68719476736 : Nat) ≤ 1099511627776)))
  by_cases h1 : x.num = y.num
  · have hr : Hid (decide (dn x = dn y) = decide (x = y)) := hid (by
      rw [Bool.eq_iff_iff, decide_eq_true_eq, decide_eq_true_eq]
      constructor
      · intro h
        refine Rat.ext h1 ?_
        have := dn_zero x; have := dn_zero y
        unfold dn at h
        have := x.den_nz; have := y.den_nz
        split at h <;> split at h <;> omega
      · rintro rfl; rfl)
    have hd : Hid (decide (x.num = y.num) = true) := hid (decide_eq_true h1)
    clear h1
    go_enter Tryz.func41, Tryz.ntmps41
    go_wp2_with fail
    refine (risame X W _ _ _ _ hxz hyz hl1.out).mono ?_
    rintro e w5 ⟨hE5, rfl⟩
    rw [hd.out]
    have j02 := (b0.ext0 hE5).cell 2 rfl
    have j12 := (b1.ext0 hE5).cell 2 rfl
    clear k00 k01 k02 k10 k11 k12
    go_wp2_with fail
    refine (rnsame X w5 _ _ _ _ (mkx NC.mono hxd hE5) (mkx NC.mono hyd hE5) hl2.out).mono ?_
    rintro e w6 ⟨rfl, m, rfl⟩
    go_wp2_with fail
    go_ret
    exact ⟨(hE.trans hE5).drewN m, ret_bool hr.out⟩
  · have hr : Hid (false = decide (x = y)) := hid (decide_eq_false (by rintro rfl; exact h1 rfl)).symm
    have hd : Hid (decide (x.num = y.num) = false) := hid (decide_eq_false h1)
    clear h1
    go_enter Tryz.func41, Tryz.ntmps41
    go_wp2_with fail
    refine (risame X W _ _ _ _ hxz hyz hl1.out).mono ?_
    rintro e w5 ⟨hE5, rfl⟩
    rw [hd.out]
    clear k00 k01 k02 k10 k11 k12
    go_wp2_with fail
    go_ret
    exact ⟨hE.trans hE5, ret_bool hr.out⟩
end Go.Proofs.YtjbhcniiioepgaaGreat

namespace Go.Proofs.YtjbhcniiioepgaaGreat
open Go.RowKit Go.Rep Go.Lim

theorem ratlist_eq {a b : List Rat} (hl : a.length = b.length) (h : ∀ p, p < a.length → ∀ (hp : p < a.length) (hq : p < b.length), a[p] = b[p]) : a = b := List.ext_getElem hl fun i h1 h2 => h i h1 h1 h2

set_option maxRecDepth 100000 in
theorem rqsamelist (X : Nat → Bool) (w : World) (u v : Value) (a b : List Rat) (hu : RC (mk X w) u a) (hv : RC (mk X w) v b) (hB : BR 68719476736 a) (hla : a.length ≤ 1099511627776) : Calls Tryz.prog 52 #[u, v] w (BOut w (decide (a = b))) := by
  obtain ⟨ao, ca, rfl, hca, hsa⟩ := hu
  obtain ⟨bo, cb, rfl, hcb, hsb⟩ := hv
  have hha := hsa.hd
  have hhb := hsb.hd
  have hB' := hid hB
  clear hB
  by_cases hlen : a.length = b.length
  · have hbl : b.length ≤ a.length := by omega
    have hab : a.length ≤ b.length := by omega
    have hne : ((a.length : Int) != b.length) = false := bneF (by omega)
    have hlen' := hid hlen
    clear hlen
    go_enter Tryz.func52, Tryz.ntmps52
    go_wp2_with fail
    go_loopw [5] (fun c wr => ∃ i : Nat, c = .int .i64 i ∧ i ≤ a.length ∧ Hid (∀ p, p < i → ∀ (hp : p < a.length) (hq : p < b.length), a[p] = b[p]) ∧ Ext w wr) (fun c _ => a.length - (intOf c).toNat)
    case atStart => exact ⟨0, rfl, Nat.zero_le _, fun p hp => by omega, ExtX.refl _⟩
    case round =>
      obtain ⟨i, rfl, hi, hok, hE⟩ := hrel
      by_cases hlt : i < a.length
      · have hlt2 : i < b.length := by omega
        obtain ⟨g1, o1, s1, a1, n1, c1, d1, k1, e1, hg1, hX1, hc1, hq1⟩ := (hsa.mono QC.mono (mk_ext hE)).rat QC.shaped i hlt
        obtain ⟨g2, o2, s2, a2, n2, c2, d2, k2, e2, hg2, hX2, hc2, hq2⟩ := (hsb.mono QC.mono (mk_ext hE)).rat QC.shaped i hlt2
        have i1 : ∀ W, (Instr.indexAt 33 (.slice ao a.length ca) (.int .i64 (i : Int))).run Tryz.prog W = .ok (.pointer (some ⟨g1, o1, none⟩)) W := by rw [← hg1]; exact run_indexAt_adr slRat ao a.length ca .i64 i hha (by omega)
        have i2 : ∀ W, (Instr.indexAt 33 (.slice bo b.length cb) (.int .i64 (i : Int))).run Tryz.prog W = .ok (.pointer (some ⟨g2, o2, none⟩)) W := by rw [← hg2]; exact run_indexAt_adr slRat bo b.length cb .i64 i hhb (by omega)
        have hEd : Ext wr wr.drew := (ExtX.refl wr).drew
        have hS : Hid (∀ W', Ext wr.drew W' → W'.cell? ⟨g1, o1, none⟩ = some (.bool s1) ∧ W'.cell? ⟨g1, o1 + 1, none⟩ = some (.slice a1 n1 c1) ∧ W'.cell? ⟨g1, o1 + 2, none⟩ = some (.slice d1 k1 e1) ∧ W'.cell? ⟨g2, o2, none⟩ = some (.bool s2) ∧ W'.cell? ⟨g2, o2 + 1, none⟩ = some (.slice a2 n2 c2) ∧ W'.cell? ⟨g2, o2 + 2, none⟩ = some (.slice d2 k2 e2)) := hid fun W' h => by
          have p1 := hc1.out noY W' (hEd.trans h) rfl
          have p2 := hc2.out noY W' (hEd.trans h) rfl
          exact ⟨p1.1, p1.2.1, p1.2.2, p2.1, p2.2.1, p2.2.2⟩
        obtain ⟨k00, k01, k02, k10, k11, k12⟩ := hS.out wr.drew (ExtX.refl _)
        have hbq := hid (hB'.out a[i] (List.getElem_mem _))
        have hq1d : QC (mk X wr.drew) (.agg #[.bool s1, .slice a1 n1 c1, .slice d1 k1 e1]) a[i] := hq1
        have hq2d : QC (mk X wr.drew) (.agg #[.bool s2, .slice a2 n2 c2, .slice d2 k2 e2]) b[i] := hq2
        obtain ⟨x, hx⟩ : ∃ x, a[i] = x := ⟨_, rfl⟩
        obtain ⟨y, hy⟩ : ∃ y, b[i] = y := ⟨_, rfl⟩
        rw [hx] at hq1d hbq
        rw [hy] at hq2d
        have hx' := hid hx
        have hy' := hid hy
        clear hx hy hc1 hc2 hg1 hg2 hq1 hq2
        by_cases hxy : x = y
        · have hn : Hid (∀ (hp : i < a.length) (hq : i < b.length), a[i] = b[i]) := hid fun _ _ => by rw [hx'.out, hy'.out, hxy]
          have hb := hid (decide_eq_true hxy)
          clear hxy
          go_wp2_with fail
          go_region_held3 (fun w' => w'.cell? ⟨g1, o1, none⟩ = some (.bool s1) ∧ w'.cell? ⟨g1, o1 + 1, none⟩ = some (.slice a1 n1 c1) ∧ w'.cell? ⟨g1, o1 + 2, none⟩ = some (.slice d1 k1 e1) ∧ w'.cell? ⟨g2, o2, none⟩ = some (.bool s2) ∧ w'.cell? ⟨g2, o2 + 1, none⟩ = some (.slice a2 n2 c2) ∧ w'.cell? ⟨g2, o2 + 2, none⟩ = some (.slice d2 k2 e2))
            (first | exact hS.out _ t1 | go_keep)
            ((go_at_call 41; (with_reducible refine (rqsame X wr.drew _ _ x y hq1d hq2d hbq.out).mono ?_); rintro ee w5 ⟨t1, rfl⟩; rw [hb.out]))
          have hE5 := hE.trans (hEd.trans t1)
          clear k00 k01 k02 k10 k11 k12
          go_wp2_with fail
          go_roundw
          case rel => exact ⟨i + 1, by go_num, by omega, upto_succ hok.out hn.out, hE5⟩
          case measure => simp [intOf]; omega
        · have hv : Hid (false = decide (a = b)) := hid (by
            symm
            rw [decide_eq_false_iff_not]
            intro h; subst h; exact hxy (hx'.out.symm.trans hy'.out))
          have hb := hid (decide_eq_false hxy)
          clear hxy
          go_wp2_with fail
          go_region_held3 (fun w' => w'.cell? ⟨g1, o1, none⟩ = some (.bool s1) ∧ w'.cell? ⟨g1, o1 + 1, none⟩ = some (.slice a1 n1 c1) ∧ w'.cell? ⟨g1, o1 + 2, none⟩ = some (.slice d1 k1 e1) ∧ w'.cell? ⟨g2, o2, none⟩ = some (.bool s2) ∧ w'.cell? ⟨g2, o2 + 1, none⟩ = some (.slice a2 n2 c2) ∧ w'.cell? ⟨g2, o2 + 2, none⟩ = some (.slice d2 k2 e2))
            (first | exact hS.out _ t1 | go_keep)
            ((go_at_call 41; (with_reducible refine (rqsame X wr.drew _ _ x y hq1d hq2d hbq.out).mono ?_); rintro ee w5 ⟨t1, rfl⟩; rw [hb.out]))
          have hE5 := hE.trans (hEd.trans t1)
          clear k00 k01 k02 k10 k11 k12
          go_wp2_with fail
          go_ret
          exact ⟨hE5, ret_bool hv.out⟩
      · have hv : Hid (true = decide (a = b)) := hid (by
          symm
          rw [decide_eq_true_eq]
          exact ratlist_eq hlen'.out fun p hp => hok.out p (by omega))
        go_wp2_with fail
        go_ret
        exact ⟨hE, ret_bool hv.out⟩
  · have hne : ((a.length : Int) != b.length) = true := bneT (by omega)
    have hv : Hid (false = decide (a = b)) := hid (by
      symm
      rw [decide_eq_false_iff_not]
      intro h; subst h; exact hlen rfl)
    clear hlen
    go_enter Tryz.func52, Tryz.ntmps52
    go_wp2_with fail
    go_ret
    exact ⟨ExtX.refl _, ret_bool hv.out⟩
end Go.Proofs.YtjbhcniiioepgaaGreat

namespace Go.Proofs.YtjbhcniiioepgaaGreat
open Go.RowKit Go.Rep Go.Lim
theorem ratlists_eq {a b : List (List Rat)} (hl : a.length = b.length) (h : ∀ p, p < a.length → ∀ (hp : p < a.length) (hq : p < b.length), a[p] = b[p]) : a = b := List.ext_getElem hl fun i h1 h2 => h i h1 h1 h2

set_option maxRecDepth 100000 in
theorem rqsamelists (X : Nat → Bool) (w : World) (u v : Value) (a b : List (List Rat)) (hu : MC (mk X w) u a) (hv : MC (mk X w) v b) (hB : BM 68719476736 a) (hla : a.length ≤ 1099511627776) (hrl : ∀ r ∈ a, r.length ≤ 1099511627776) : Calls Tryz.prog 23 #[u, v] w (BOut w (decide (a = b))) := by
  obtain ⟨ao, ca, rfl, hca, hsa⟩ := hu
  obtain ⟨bo, cb, rfl, hcb, hsb⟩ := hv
  have hha := hsa.hd
  have hhb := hsb.hd
  have hB' := hid hB
  have hrl' := hid hrl
  clear hB hrl
  by_cases hlen : a.length = b.length
  · have hbl : b.length ≤ a.length := by omega
    have hab : a.length ≤ b.length := by omega
    have hne : ((a.length : Int) != b.length) = false := bneF (by omega)
    have hlen' := hid hlen
    clear hlen
    go_enter Tryz.func23, Tryz.ntmps23
    go_wp2_with fail
    go_loopw [5] (fun c wr => ∃ i : Nat, c = .int .i64 i ∧ i ≤ a.length ∧ Hid (∀ p, p < i → ∀ (hp : p < a.length) (hq : p < b.length), a[p] = b[p]) ∧ Ext w wr) (fun c _ => a.length - (intOf c).toNat)
    case atStart => exact ⟨0, rfl, Nat.zero_le _, fun p hp => by omega, ExtX.refl _⟩
    case round =>
      obtain ⟨i, rfl, hi, hok, hE⟩ := hrel
      by_cases hlt : i < a.length
      · have hlt2 : i < b.length := by omega
        obtain ⟨a1, c1, hX1, hc1, hcl1, hq1⟩ := (hsa.mono RC.mono (mk_ext hE)).row i hlt
        obtain ⟨a2, c2, hX2, hc2, hcl2, hq2⟩ := (hsb.mono RC.mono (mk_ext hE)).row i hlt2
        have i1 : ∀ W, (Instr.indexAt 23 (.slice ao a.length ca) (.int .i64 (i : Int))).run Tryz.prog W = .ok (.pointer (some (adr ao i))) W := run_ix1 slRats ao a.length ca .i64 i hha (by omega) rfl
        have i2 : ∀ W, (Instr.indexAt 23 (.slice bo b.length cb) (.int .i64 (i : Int))).run Tryz.prog W = .ok (.pointer (some (adr bo i))) W := run_ix1 slRats bo b.length cb .i64 i hhb (by omega) rfl
        have hEd : Ext wr wr.drew := (ExtX.refl wr).drew
        have hS : Hid (∀ W', Ext wr.drew W' → W'.cell? (adr ao i) = some (.slice a1 a[i].length c1) ∧ W'.cell? (adr bo i) = some (.slice a2 b[i].length c2)) := hid fun W' h => ⟨hc1.out noY W' (hEd.trans h) rfl, hc2.out noY W' (hEd.trans h) rfl⟩
        obtain ⟨k00, k10⟩ := hS.out wr.drew (ExtX.refl _)
        have hbq := hid (hB'.out a[i] (List.getElem_mem _))
        have hbl2 := hid (hrl'.out a[i] (List.getElem_mem _))
        have hq1d : RC (mk X wr.drew) (.slice a1 a[i].length c1) a[i] := ⟨a1, c1, rfl, hcl1, hq1⟩
        have hq2d : RC (mk X wr.drew) (.slice a2 b[i].length c2) b[i] := ⟨a2, c2, rfl, hcl2, hq2⟩
        obtain ⟨x, hx⟩ : ∃ x, a[i] = x := ⟨_, rfl⟩
        obtain ⟨y, hy⟩ : ∃ y, b[i] = y := ⟨_, rfl⟩
        rw [hx] at hq1d hbq hbl2 k00 hS
        rw [hy] at hq2d k10 hS
        have hx' := hid hx
        have hy' := hid hy
        clear hx hy hc1 hc2 hq1 hq2 hcl1 hcl2
        by_cases hxy : x = y
        · have hn : Hid (∀ (hp : i < a.length) (hq : i < b.length), a[i] = b[i]) := hid fun _ _ => by rw [hx'.out, hy'.out, hxy]
          have hb := hid (decide_eq_true hxy)
          clear hxy
          go_wp2_with fail
          go_region_held3 (fun w' => w'.cell? (adr ao i) = some (.slice a1 x.length c1) ∧ w'.cell? (adr bo i) = some (.slice a2 y.length c2))
            (first | exact hS.out _ t1 | go_keep)
            ((go_at_call 52; (with_reducible refine (rqsamelist X wr.drew _ _ x y hq1d hq2d hbq.out hbl2.out).mono ?_); rintro ee w5 ⟨t1, rfl⟩; rw [hb.out]))
          have hE5 := hE.trans (hEd.trans t1)
          clear k00 k10
          go_wp2_with fail
          go_roundw
          case rel => exact ⟨i + 1, by go_num, by omega, upto_succ hok.out hn.out, hE5⟩
          case measure => simp [intOf]; omega
        · have hv : Hid (false = decide (a = b)) := hid (by
            symm
            rw [decide_eq_false_iff_not]
            intro h; subst h; exact hxy (hx'.out.symm.trans hy'.out))
          have hb := hid (decide_eq_false hxy)
          clear hxy
          go_wp2_with fail
          go_region_held3 (fun w' => w'.cell? (adr ao i) = some (.slice a1 x.length c1) ∧ w'.cell? (adr bo i) = some (.slice a2 y.length c2))
            (first | exact hS.out _ t1 | go_keep)
            ((go_at_call 52; (with_reducible refine (rqsamelist X wr.drew _ _ x y hq1d hq2d hbq.out hbl2.out).mono ?_); rintro ee w5 ⟨t1, rfl⟩; rw [hb.out]))
          have hE5 := hE.trans (hEd.trans t1)
          clear k00 k10
          go_wp2_with fail
          go_ret
          exact ⟨hE5, ret_bool hv.out⟩
      · have hv : Hid (true = decide (a = b)) := hid (by
          symm
          rw [decide_eq_true_eq]
          exact ratlists_eq hlen'.out fun p hp => hok.out p (by omega))
        go_wp2_with fail
        go_ret
        exact ⟨hE, ret_bool hv.out⟩
  · have hne : ((a.length : Int) != b.length) = true := bneT (by omega)
    have hv : Hid (false = decide (a = b)) := hid (by
      symm
      rw [decide_eq_false_iff_not]
      intro h; subst h; exact hlen rfl)
    clear hlen
    go_enter Tryz.func23, Tryz.ntmps23
    go_wp2_with fail
    go_ret
    exact ⟨ExtX.refl _, ret_bool hv.out⟩
end Go.Proofs.YtjbhcniiioepgaaGreat

namespace Go.Lin
open Go.Lim
theorem awakeL : redP [[0, 2], [1, 1]] 2 = ([[1, 0], [0, 1]], [0, 1]) := by decide +kernel
theorem lg_le_one {n : Nat} (h : n < 4294967296) : lg n ≤ 1 := by
  by_cases h0 : n = 0
  · subst h0; simp [lg_zero]
  · rw [lg_one_iff (by omega) h]; exact Nat.le_refl _
theorem hq_small {z : Int} (h : z.natAbs < 4294967296) : hq (z : Rat) ≤ 1 := hq_int z 1 (lg_le_one h) (Nat.le_refl _)
theorem BM.hb {B : Nat} {m : Mat} (h : Go.Rep.BM B m) (hB : 1 ≤ B) : HB B m := fun i j => by
  unfold ent
  by_cases hi : i < m.length
  · by_cases hj : j < (m[i]).length
    · have := h m[i] (List.getElem_mem _) (m[i])[j] (List.getElem_mem _)
      simpa [List.getD_eq_getElem?_getD, hi, hj] using this
    · rw [getD_row hi, List.getD_eq_getElem?_getD, List.getElem?_eq_none (by omega)]
      simpa [hq_zero] using hB
  · rw [List.getD_eq_getElem?_getD (l := m), List.getElem?_eq_none (by omega)]
    simpa [hq_zero] using hB
end Go.Lin
namespace Go.Rep
open Go.RowKit Go.Lim
theorem rc_lit2 {X : Nat → Bool} {w : World} {e : TypeId} (hX : HX X w) {u v : Value} {x y : Rat} (hu : QC (mk X w) u x) (hv : QC (mk X w) v y) {arr : Array Value} (harr : arr = (cellsL u ++ cellsL v).toArray) : RC (mk X (w.alloc (.cells arr e))) (.slice (some ⟨w.heap.size, 0, none⟩) 2 2) [x, y] := by
  have := OL.lit (w := w) (base := w.heap.size) (e := e) QC.elem hX (Nat.le_refl _) [u, v] [x, y] arr (by rw [harr]; simp) rfl (fun i hi hi' => by
    match i, hi with
    | 0, _ => exact hu
    | 1, _ => exact hv) (by simp)
  exact ⟨_, _, rfl, Nat.le_refl _, this.sl QC.elem⟩
theorem mc_lit2 {X : Nat → Bool} {w : World} {e : TypeId} (hX : HX X w) {u v : Value} {x y : List Rat} (hu : RC (mk X w) u x) (hv : RC (mk X w) v y) {arr : Array Value} (harr : arr = (cellsL u ++ cellsL v).toArray) : MC (mk X (w.alloc (.cells arr e))) (.slice (some ⟨w.heap.size, 0, none⟩) 2 2) [x, y] := by
  have := OL.lit (w := w) (base := w.heap.size) (e := e) RC.elem hX (Nat.le_refl _) [u, v] [x, y] arr (by rw [harr]; simp) rfl (fun i hi hi' => by
    match i, hi with
    | 0, _ => exact hu
    | 1, _ => exact hv) (by simp)
  exact ⟨_, _, rfl, Nat.le_refl _, this.sl RC.elem⟩
theorem pv_lit2 {X : Nat → Bool} {w : World} {e : TypeId} (hX : HX X w) (x y : Nat) {arr : Array Value} (harr : arr = #[.int .i64 (x : Int), .int .i64 (y : Int)]) : SlV (NatIn .i64) 1 (mk X (w.alloc (.cells arr e))) (.slice (some ⟨w.heap.size, 0, none⟩) 2 2) [x, y] := by
  have := OL.lit (w := w) (base := w.heap.size) (e := e) (NatIn.elem .i64) hX (Nat.le_refl _) [.int .i64 (x : Int), .int .i64 (y : Int)] [x, y] arr (by rw [harr]; simp [cellsL, Value.cells]) rfl (fun i hi hi' => by
    match i, hi with
    | 0, _ => rfl
    | 1, _ => rfl) (by simp)
  exact ⟨_, _, rfl, Nat.le_refl _, this.sl (NatIn.elem .i64)⟩
end Go.Rep
namespace Go.Proofs.YtjbhcniiioepgaaGreat
open Go.RowKit Go.Rep Go.Lim Go.Lin

set_option maxRecDepth 100000 in
set_option maxHeartbeats 800000 in
theorem awake6_any (w : World) : Calls Tryz.prog 22 #[] w (BOut w true) := by
  have hX := HX.none w
  go_enter Tryz.func22, Tryz.ntmps22
  go_wp2_with fail
  refine (rqfrom noY w 0 hX (by omega) (by omega)).mono ?_
  rintro e w1 ⟨hE1, u1, rfl, hu1⟩
  obtain ⟨s1, a1, n1, c1, d1, k1, e1, rfl⟩ := hu1.shape
  go_wp2_with fail
  refine (rqfrom noY w1 2 (hX.ext hE1) (by omega) (by omega)).mono ?_
  rintro e w2 ⟨hE2, u2, rfl, hu2⟩
  obtain ⟨s2, a2, n2, c2, d2, k2, e2, rfl⟩ := hu2.shape
  have hX2 := (hX.ext hE1).ext hE2
  have hA := rc_lit2 (e := 31) hX2 (mkx QC.mono hu1 hE2) hu2 rfl
  go_wp2_with fail
  obtain ⟨w3, hw3, hE3⟩ : ∃ w3, w2.alloc (.cells (cellsL (.agg #[.bool s1, .slice a1 n1 c1, .slice d1 k1 e1]) ++ cellsL (.agg #[.bool s2, .slice a2 n2 c2, .slice d2 k2 e2])).toArray 31) = w3 ∧ Ext w2 w3 := ⟨_, rfl, (ExtX.refl w2).alloc _⟩
  change Calls _ _ _ (w2.alloc (.cells (cellsL (.agg #[.bool s1, .slice a1 n1 c1, .slice d1 k1 e1]) ++ cellsL (.agg #[.bool s2, .slice a2 n2 c2, .slice d2 k2 e2])).toArray 31)) _
  rw [hw3] at hA ⊢
  obtain ⟨b3, hb3⟩ : ∃ b, w2.heap.size = b := ⟨_, rfl⟩
  rw [hb3] at hA ⊢
  clear hw3 hb3
  have hX3 := hX2.ext hE3
  refine (rqfrom noY w3 1 hX3 (by omega) (by omega)).mono ?_
  rintro e w4 ⟨hE4, u4, rfl, hu4⟩
  obtain ⟨s4, a4, n4, c4, d4, k4, e4, rfl⟩ := hu4.shape
  have hX4 := hX3.ext hE4
  go_wp2_with fail
  refine (rqfrom noY w4 1 hX4 (by omega) (by omega)).mono ?_
  rintro e w5 ⟨hE5, u5, rfl, hu5⟩
  obtain ⟨s5, a5, n5, c5, d5, k5, e5, rfl⟩ := hu5.shape
  have hX5 := hX4.ext hE5
  have hB := rc_lit2 (e := 31) hX5 (mkx QC.mono hu4 hE5) hu5 rfl
  have hE6 : Ext w5 (w5.alloc (.cells (cellsL (.agg #[.bool s4, .slice a4 n4 c4, .slice d4 k4 e4]) ++ cellsL (.agg #[.bool s5, .slice a5 n5 c5, .slice d5 k5 e5])).toArray 31)) := (ExtX.refl w5).alloc _
  have hX6 := hX5.ext hE6
  have hA6 := mkx RC.mono hA (hE4.trans (hE5.trans hE6))
  have hM := mc_lit2 (e := 33) hX6 hA6 hB rfl
  have hE7 : Ext w5 ((w5.alloc (.cells (cellsL (.agg #[.bool s4, .slice a4 n4 c4, .slice d4 k4 e4]) ++ cellsL (.agg #[.bool s5, .slice a5 n5 c5, .slice d5 k5 e5])).toArray 31)).alloc (.cells (cellsL (.slice (some ⟨b3, 0, none⟩) 2 2) ++ cellsL (.slice (some ⟨w5.heap.size, 0, none⟩) 2 2)).toArray 33)) := hE6.alloc _
  go_wp2_with fail
  change Calls _ _ _ ((w5.alloc (.cells (cellsL (.agg #[.bool s4, .slice a4 n4 c4, .slice d4 k4 e4]) ++ cellsL (.agg #[.bool s5, .slice a5 n5 c5, .slice d5 k5 e5])).toArray 31)).alloc (.cells (cellsL (.slice (some ⟨b3, 0, none⟩) 2 2) ++ cellsL (.slice (some ⟨w5.heap.size, 0, none⟩) 2 2)).toArray 33)) _
  have hM7 : MC (mk noY ((w5.alloc (.cells (cellsL (.agg #[.bool s4, .slice a4 n4 c4, .slice d4 k4 e4]) ++ cellsL (.agg #[.bool s5, .slice a5 n5 c5, .slice d5 k5 e5])).toArray 31)).alloc (.cells (cellsL (.slice (some ⟨b3, 0, none⟩) 2 2) ++ cellsL (.slice (some ⟨w5.heap.size, 0, none⟩) 2 2)).toArray 33))) (.slice (some ⟨w5.heap.size + 1, 0, none⟩) 2 2) [[0, 2], [1, 1]] := by
    have e0 : ((0 : Int) : Rat) = 0 := by decide +kernel
    have e1 : ((1 : Int) : Rat) = 1 := by decide +kernel
    have e2 : ((2 : Int) : Rat) = 2 := by decide +kernel
    rw [e0, e1, e2] at hM
    simpa using hM
  obtain ⟨w7, hw7⟩ : ∃ w7, ((w5.alloc (.cells (cellsL (.agg #[.bool s4, .slice a4 n4 c4, .slice d4 k4 e4]) ++ cellsL (.agg #[.bool s5, .slice a5 n5 c5, .slice d5 k5 e5])).toArray 31)).alloc (.cells (cellsL (.slice (some ⟨b3, 0, none⟩) 2 2) ++ cellsL (.slice (some ⟨w5.heap.size, 0, none⟩) 2 2)).toArray 33)) = w7 := ⟨_, rfl⟩
  rw [hw7] at hM7 hE7 ⊢
  have hE07 : Ext w w7 := (hE1.trans (hE2.trans (hE3.trans (hE4.trans hE5)))).trans hE7
  have hX7 := hX.ext hE07
  have hbm : BM 1 [[0, 2], [1, 1]] := by
    intro r hr q hqm
    have h0 : hq 0 ≤ 1 := hq_small (z := 0) (by decide)
    have h1 : hq 1 ≤ 1 := hq_small (z := 1) (by decide)
    have h2 : hq 2 ≤ 1 := hq_small (z := 2) (by decide)
    simp only [List.mem_cons, List.not_mem_nil, or_false] at hr
    rcases hr with rfl | rfl <;> simp only [List.mem_cons, List.not_mem_nil, or_false] at hqm <;> rcases hqm with rfl | rfl <;> assumption
  clear hM hw7 hA hB hA6 hE6
  have hred := preduce_ok noY w7 _ _ hX7 (hM7.mv (fun r hr q hq => Nat.le_trans (hbm r hr q hq) (by decide))) (by decide) (tame_of (n := 2) ⟨rfl, by intro r hr; simp only [List.mem_cons, List.not_mem_nil, or_false] at hr; rcases hr with rfl | rfl <;> rfl⟩ (BM.hb hbm (by decide)) (by decide))
  have hcl : colsL [[(0 : Rat), 2], [1, 1]] = 2 := rfl
  rw [hcl, awakeL] at hred
  refine hred.mono ?_
  rintro e w8 ⟨hE8, u8, v8, rfl, hu8, hv8⟩
  obtain ⟨ao, ca, rfl, hca, hsa⟩ := hu8
  obtain ⟨bo, cb, rfl, hcb, hsb⟩ := hv8
  have hX8 := hX7.ext hE8
  go_wp2_with fail
  have hE9 : Ext w8 (w8.alloc (.cells #[.int .i64 0, .int .i64 1] 3)) := (ExtX.refl w8).alloc _
  have hlit : SlV (NatIn .i64) 1 (mk noY (w8.alloc (.cells #[.int .i64 0, .int .i64 1] 3))) (.slice (some ⟨w8.heap.size, 0, none⟩) 2 2) [0, 1] := pv_lit2 hX8 0 1 rfl
  have hsb9 := hsb.mono (NatIn.mono _) (mk_ext hE9)
  have hsa9 := hsa.mono RC.mono (mk_ext hE9)
  obtain ⟨w9, hw9⟩ : ∃ w9, w8.alloc (.cells #[.int .i64 0, .int .i64 1] 3) = w9 := ⟨_, rfl⟩
  obtain ⟨b8, hb8⟩ : ∃ b, w8.heap.size = b := ⟨_, rfl⟩
  rw [hw9] at hE9 hlit hsb9 hsa9 ⊢
  rw [hb8] at hlit ⊢
  clear hw9 hb8
  have hX9 := hX8.ext hE9
  obtain ⟨lo, cl, heq, hcl9, hsl9⟩ := hlit
  simp only [Value.slice.injEq] at heq
  obtain ⟨rfl, _, rfl⟩ := heq
  refine (rsamei_any noY _ _ [0, 1] [0, 1] _ _ w9 hsb9 hsl9 (by decide)).mono ?_
  rintro e w10 ⟨rfl, m10, hw10⟩
  have hE10 : Ext w9 w10 := by rw [hw10]; exact (ExtX.refl w9).drewN _
  clear hw10
  have hX10 := hX9.ext hE10
  have hee : ([0, 1] == [0, 1]) = true := by decide
  rw [hee]
  clear hee
  go_wp2_with fail
  refine (rqfrom noY w10 1 hX10 (by omega) (by omega)).mono ?_
  rintro e w11 ⟨hE11, u11, rfl, hu11⟩
  obtain ⟨s11, a11, n11, c11, d11, k11, e11, rfl⟩ := hu11.shape
  have hX11 := hX10.ext hE11
  have hA := rc_lit2 (e := 31) hX11 hu11 (QC.zero _) rfl
  go_wp2_with fail
  obtain ⟨w12, hw12, hE12⟩ : ∃ w12, w11.alloc (.cells (cellsL (.agg #[.bool s11, .slice a11 n11 c11, .slice d11 k11 e11]) ++ cellsL (.agg #[.bool false, .slice none 0 0, .slice none 0 0])).toArray 31) = w12 ∧ Ext w11 w12 := ⟨_, rfl, (ExtX.refl w11).alloc _⟩
  change Calls _ _ _ (w11.alloc (.cells (cellsL (.agg #[.bool s11, .slice a11 n11 c11, .slice d11 k11 e11]) ++ cellsL (.agg #[.bool false, .slice none 0 0, .slice none 0 0])).toArray 31)) _
  rw [hw12] at hA ⊢
  obtain ⟨b11, hb11⟩ : ∃ b, w11.heap.size = b := ⟨_, rfl⟩
  rw [hb11] at hA ⊢
  clear hw12 hb11
  have hX12 := hX11.ext hE12
  refine (rqfrom noY w12 1 hX12 (by omega) (by omega)).mono ?_
  rintro e w13 ⟨hE13, u13, rfl, hu13⟩
  obtain ⟨s13, a13, n13, c13, d13, k13, e13, rfl⟩ := hu13.shape
  have hX13 := hX12.ext hE13
  have hB := rc_lit2 (e := 31) hX13 (QC.zero _) hu13 rfl
  have hE14 : Ext w13 (w13.alloc (.cells (cellsL (.agg #[.bool false, .slice none 0 0, .slice none 0 0]) ++ cellsL (.agg #[.bool s13, .slice a13 n13 c13, .slice d13 k13 e13])).toArray 31)) := (ExtX.refl w13).alloc _
  have hX14 := hX13.ext hE14
  have hA14 := mkx RC.mono hA (hE13.trans hE14)
  have hM := mc_lit2 (e := 33) hX14 hA14 hB rfl
  have hE15 : Ext w13 ((w13.alloc (.cells (cellsL (.agg #[.bool false, .slice none 0 0, .slice none 0 0]) ++ cellsL (.agg #[.bool s13, .slice a13 n13 c13, .slice d13 k13 e13])).toArray 31)).alloc (.cells (cellsL (.slice (some ⟨b11, 0, none⟩) 2 2) ++ cellsL (.slice (some ⟨w13.heap.size, 0, none⟩) 2 2)).toArray 33)) := hE14.alloc _
  go_wp2_with fail
  change Calls _ _ _ ((w13.alloc (.cells (cellsL (.agg #[.bool false, .slice none 0 0, .slice none 0 0]) ++ cellsL (.agg #[.bool s13, .slice a13 n13 c13, .slice d13 k13 e13])).toArray 31)).alloc (.cells (cellsL (.slice (some ⟨b11, 0, none⟩) 2 2) ++ cellsL (.slice (some ⟨w13.heap.size, 0, none⟩) 2 2)).toArray 33)) _
  have hM7 : MC (mk noY ((w13.alloc (.cells (cellsL (.agg #[.bool false, .slice none 0 0, .slice none 0 0]) ++ cellsL (.agg #[.bool s13, .slice a13 n13 c13, .slice d13 k13 e13])).toArray 31)).alloc (.cells (cellsL (.slice (some ⟨b11, 0, none⟩) 2 2) ++ cellsL (.slice (some ⟨w13.heap.size, 0, none⟩) 2 2)).toArray 33))) (.slice (some ⟨w13.heap.size + 1, 0, none⟩) 2 2) [[1, 0], [0, 1]] := by
    have e1 : ((1 : Int) : Rat) = 1 := by decide +kernel
    rw [e1] at hM
    simpa using hM
  obtain ⟨w15, hw15⟩ : ∃ w15, ((w13.alloc (.cells (cellsL (.agg #[.bool false, .slice none 0 0, .slice none 0 0]) ++ cellsL (.agg #[.bool s13, .slice a13 n13 c13, .slice d13 k13 e13])).toArray 31)).alloc (.cells (cellsL (.slice (some ⟨b11, 0, none⟩) 2 2) ++ cellsL (.slice (some ⟨w13.heap.size, 0, none⟩) 2 2)).toArray 33)) = w15 := ⟨_, rfl⟩
  rw [hw15] at hM7 hE15 ⊢
  clear hM hw15 hA hB hA14 hE14
  have hEe : Ext w8 w15 := (hE9.trans (hE10.trans (hE11.trans (hE12.trans hE13)))).trans hE15
  have hr15 : MC (mk noY w15) (.slice ao 2 ca) [[1, 0], [0, 1]] := ⟨ao, ca, rfl, hca, hsa.mono RC.mono (mk_ext hEe)⟩
  have hbm2 : BM 68719476736 [[1, 0], [0, 1]] := by
    intro r hr q hqm
    have h0 : hq 0 ≤ 68719476736 := Nat.le_trans (hq_small (z := 0) (by decide)) (by decide)
    have h1 : hq 1 ≤ 68719476736 := Nat.le_trans (hq_small (z := 1) (by decide)) (by decide)
    simp only [List.mem_cons, List.not_mem_nil, or_false] at hr
    rcases hr with rfl | rfl <;> simp only [List.mem_cons, List.not_mem_nil, or_false] at hqm <;> rcases hqm with rfl | rfl <;> assumption
  have hrl2 : ∀ r ∈ [[(1 : Rat), 0], [0, 1]], r.length ≤ 1099511627776 := by
    intro r hr
    simp only [List.mem_cons, List.not_mem_nil, or_false] at hr
    rcases hr with rfl | rfl <;> simp
  have hsl := rqsamelists noY w15 _ _ _ _ hr15 hM7 hbm2 (by simp) hrl2
  have hee : decide ([[(1 : Rat), 0], [0, 1]] = [[1, 0], [0, 1]]) = true := decide_eq_true rfl
  rw [hee] at hsl
  refine hsl.mono ?_
  rintro e w16 ⟨hE16, rfl⟩
  go_wp2_with fail
  go_ret
  exact ⟨hE07.trans (hE8.trans (hEe.trans hE16)), rfl⟩
end Go.Proofs.YtjbhcniiioepgaaGreat

namespace Go.Lin
open Go.Lim
theorem matL_shp (r c : Nat) (raw : List Int) : Shp r c (matL r c raw) := ⟨by simp [matL], fun x hx => by
  obtain ⟨i, _, rfl⟩ := List.mem_map.1 hx; simp⟩
theorem matL_bm (r c : Nat) (raw : List Int) : Go.Rep.BM 2 (matL r c raw) := fun x hx q hq => by
  obtain ⟨i, _, rfl⟩ := List.mem_map.1 hx
  obtain ⟨j, _, rfl⟩ := List.mem_map.1 hq
  exact numQ_hq _
/-- One row added to another, and both exchanged. -/
def addSwap (m : Mat) (i j : Nat) (f : Rat) : Mat := swapL (m.set i (List.zipWith (· + ·) (m.getD i []) ((m.getD j []).map (· * f)))) i j
theorem addSwap_ok {n c B : Nat} {m : Mat} {i j : Nat} {f : Rat} (hs : Shp n c m) (hi : i < n) (hj : j < n) (hij : i ≠ j) (hB : HB B m) (hf : hq f ≤ B) : Shp n c (addSwap m i j f) ∧ RE n c (ent m) (ent (addSwap m i j f)) (-1) ∧ HB (4 * B) (addSwap m i j f) := by
  have hri := hs.row hi
  have hrj := hs.row hj
  have hl : (List.zipWith (· + ·) (m.getD i []) ((m.getD j []).map (· * f))).length = c := by rw [List.length_zipWith, List.length_map, hri, hrj]; omega
  have hs1 := hs.set i hl
  have he : ∀ r q, ent (m.set i (List.zipWith (· + ·) (m.getD i []) ((m.getD j []).map (· * f)))) r q = if r = i then ent m i q + ent m j q * f else ent m r q := fun r q => by
    rw [ent_set (by rw [hs.1]; exact hi), zip_add _ _ (by rw [List.length_map, hri, hrj]), getD_map_mul]; rfl
  refine ⟨hs1.swap hi hj, ?_, ?_⟩
  · refine (RE.add (f := ent m) (g := ent (m.set i (List.zipWith (· + ·) (m.getD i []) ((m.getD j []).map (· * f))))) i j f hi hj hij (fun q _ => by rw [he]; simp; grind) (fun r _ hr q _ => by rw [he, if_neg hr])).then_ (re_swap hs1 hi hj hij) (by grind)
  · refine HB.swap (fun r q => ?_) hs1 hi hj
    rw [he]
    split
    · have h1 := hB i q; have h2 := hB j q; have h3 := hq_mul (ent m j q) f; have h4 := hq_add (ent m i q) (ent m j q * f); have := hB.pos; omega
    · have := hB r q; omega
/-- A row multiplied. -/
def mulRow (m : Mat) (i : Nat) (f : Rat) : Mat := m.set i ((m.getD i []).map (· * f))
theorem mulRow_ok {n c B : Nat} {m : Mat} {i : Nat} {f : Rat} (hs : Shp n c m) (hi : i < n) (hf0 : f ≠ 0) (hB : HB B m) (hf : hq f ≤ B) : Shp n c (mulRow m i f) ∧ RE n c (ent m) (ent (mulRow m i f)) f ∧ HB (4 * B) (mulRow m i f) := by
  have he : ∀ r q, ent (mulRow m i f) r q = if r = i then ent m i q * f else ent m r q := fun r q => by
    unfold mulRow; rw [ent_set (by rw [hs.1]; exact hi), getD_map_mul]; rfl
  refine ⟨hs.set i (by rw [List.length_map]; exact hs.row hi), .scale i f hi hf0 (fun q _ => by rw [he]; simp; grind) (fun r _ hr q _ => by rw [he, if_neg hr]), fun r q => ?_⟩
  rw [he]
  split
  · have h1 := hB i q; have h3 := hq_mul (ent m i q) f; have := hB.pos; omega
  · have := hB r q; omega
end Go.Lin

namespace Go.Lin
theorem shp_cols {n c : Nat} {m : Mat} (h : Shp n c m) (hn : 1 ≤ n) : colsL m = c := by
  rw [colsL_pos (by rw [h.1]; exact hn)]; exact h.2 _ (List.getElem_mem _)
theorem shp_formed {n c : Nat} {m : Mat} (h : Shp n c m) (hn : n ≤ 96) (hc : 1 ≤ c) (hc2 : c ≤ 96) : formedB m = true := by
  refine formedB_true.2 ⟨by rw [h.1]; exact hn, fun i hi => ?_⟩
  have h1 := h.2 _ (List.getElem_mem hi)
  refine ⟨by omega, by omega, ?_⟩
  rw [h1, shp_cols h (by have := h.1; omega)]
end Go.Lin
namespace Go.Rep
theorem OL.ext_own {α : Type} {R : Mem → Value → α → Prop} {sz : Nat} {X : Nat → Bool} {base : Nat} {e : TypeId} {w0 w w' : World} {ao : Option Addr} {cap : Nat} {l : List α} (h : OL R sz X base e w0 ao cap l) (hE : Ext w0 w) (hE2 : ExtX (ob ao) w w') : ExtX (ob ao) w0 w' := (ExtX.of hE).trans hE2
end Go.Rep
namespace Go.Proofs.YtjbhcniiioepgaaGreat
open Go.RowKit Go.Rep Go.Lim Go.Lin

theorem nat_of {x : Int} (h : 0 ≤ x) : ∃ n : Nat, x = (n : Int) := Int.eq_ofNat_of_zero_le h

set_option maxRecDepth 100000 in
set_option maxHeartbeats 1600000 in
theorem uniq_any (w : World) (d1 d2 i0 j0 cc : Int) (ao : Option Addr) (raw : List Int) (cap : Nat) (h1 : 0 ≤ d1) (h1' : d1 < 256) (h2 : 0 ≤ d2) (h2' : d2 < 256) (hs : Sl (IntIn .i64) 1 (mk noY w) ao raw) (hraw : ∀ x ∈ raw, -9223372036854775808 ≤ x ∧ x ≤ 9223372036854775807) (hc1 : -9223372036854775808 ≤ cc) (hc2 : cc ≤ 9223372036854775807) :
    Calls Tryz.prog 3 #[.int .u8 d1, .int .u8 d2, .slice ao raw.length cap, .int .i64 i0, .int .i64 j0, .int .i64 cc] w (BOut w true) := by
  have hX := HX.none w
  obtain ⟨n, hn⟩ := nat_of (show 0 ≤ 1 + d1 % 4 by omega)
  obtain ⟨k, hk⟩ := nat_of (show 0 ≤ 1 + d2 % 4 by omega)
  have hn1 : 1 ≤ n ∧ n ≤ 4 := by omega
  have hk1 : 1 ≤ k ∧ k ≤ 4 := by omega
  obtain ⟨i, hi⟩ := nat_of (show 0 ≤ i0 % (n : Int) from Int.emod_nonneg _ (by omega))
  obtain ⟨j, hj⟩ := nat_of (show 0 ≤ j0 % (n : Int) from Int.emod_nonneg _ (by omega))
  have hin : i < n := by have := Int.emod_lt_of_pos i0 (show (0 : Int) < n by omega); omega
  have hjn : j < n := by have := Int.emod_lt_of_pos j0 (show (0 : Int) < n by omega); omega
  obtain ⟨m, hm⟩ : ∃ m, matL n k raw = m := ⟨_, rfl⟩
  have hsh : Shp n k m := by rw [← hm]; exact matL_shp n k raw
  have hbm : BM 2 m := by rw [← hm]; exact matL_bm n k raw
  have hraw' := hid hraw
  have hcc := hid (And.intro hc1 hc2)
  have hn' := hid hn
  have hk' := hid hk
  have hi' := hid hi
  have hj' := hid hj
  have hml := hid hsh.1
  have hHB := hid (BM.hb hbm (by decide))
  have hbm2 := hid (show BM 68719476736 m from fun r hr q hq => Nat.le_trans (hbm r hr q hq) (by decide))
  have hrl := hid hsh.2
  have hsh' := hid hsh
  have hdd := hid (And.intro (And.intro h1 h1') (And.intro h2 h2'))
  clear hraw hc1 hc2 hn hk hi hj hbm hsh
  go_enter Tryz.func3, Tryz.ntmps3
  go_wp2_with fail
  rw [hn'.out, hk'.out]
  refine (matrix_any noY w n k ao raw cap hX hs (by omega) (by omega) hraw'.out).mono ?_
  rw [hm]
  rintro e w1 ⟨hE1, u1, rfl, hu1⟩
  obtain ⟨mo, cm, rfl, hcm, hsm⟩ := hu1
  rw [hml.out]
  have hX1 := hX.ext hE1
  clear h1 h1' h2 h2'
  go_wp2_with fail
  refine (mod_any w1 i0 n (by omega) (by omega)).mono ?_
  rintro e w2 ⟨rfl, rfl⟩
  rw [hi'.out]
  go_wp2_with fail
  refine (mod_any w2 j0 n (by omega) (by omega)).mono ?_
  rintro e w3 ⟨rfl, rfl⟩
  rw [hj'.out]
  have hmc : MC (mk noY w3) (.slice mo n cm) m := ⟨mo, cm, by rw [hml.out], hcm, hsm⟩
  go_wp2_with fail
  refine (rmtakeO noY w3 _ m hX1 (hmc.mv hbm2.out) (by rw [hml.out]; omega) (fun r hr => by rw [hrl.out r hr]; omega)).mono ?_
  rintro e w4 ⟨hE4, oo, co, rfl, hO4⟩
  rw [hml.out]
  have hX4 := hX1.ext hE4
  go_wp2_with fail
  refine (number_any (un noY oo) w4 cc (hO4.unX hX4) hcc.out.1 hcc.out.2).mono ?_
  rintro e w5 ⟨hE5, u5, rfl, hu5⟩
  obtain ⟨s5, a5, n5, c5, d5, k5, e5, rfl⟩ := hu5.shape
  have hX5 := hX4.ext hE5
  have hO5 := hO4.ext0 RC.elem hE5
  have hhO : Hd oo n := by have := hO4.hd; rw [hml.out] at this; exact this
  obtain ⟨f, hf⟩ : ∃ f, numQ cc = f := ⟨_, rfl⟩
  have hfq := hid (numQ_hq cc)
  rw [hf] at hu5 hfq
  have bx := Bx.new w5 #[.bool false, .slice none 0 0, .slice none 0 0] 31
  clear hf
  go_upto_if 51 with ((with_reducible show wpList _ _ _ (⟨_, .store _ _ _, _, _, _, _⟩ :: _) _ _); refine st_storeBox stRat rfl rfl bx rfl rfl (one3 _ _ _ _ _ _ _) ?_; intro w6 r1 r2)
  have hE6 : Ext w5 w6 := ExtX.box ((ExtX.refl w5).alloc _) r2 (Nat.le_refl _)
  have hEd : Ext w6 w6.drew := (ExtX.refl w6).drew
  have hO6 := hO5.ext0 RC.elem hE6
  have hu6 := mkx QC.mono hu5 hE6
  have hE06 : Ext w w6 := (hE1.trans (hE4.trans hE5)).trans hE6
  have hX6 := hX.ext hE06
  have hX6u : HX (un noY oo) w6 := hO6.unX hX6
  have hmc3u : MC (mk (un noY oo) w6) (.slice mo n cm) m := old_un MC.mono hmc (hE4.trans (hE5.trans hE6)) (fun q hq => hO6.ob_lt hq)
  have h3sz := (hE1.size : w.heap.size ≤ w3.heap.size)
  obtain ⟨b, hb⟩ : ∃ b, w5.heap.size = b := ⟨_, rfl⟩
  rw [hb] at r1 ⊢
  have hobb : Hid (ob oo b = false) := hid (by rw [← hb]; exact hO5.ob_ge (Nat.le_refl _))
  have him : i < m.length := by rw [hml.out]; exact hin
  have hjm : j < m.length := by rw [hml.out]; exact hjn
  have hmc6 : MC (mk noY w6) (.slice mo n cm) m := mkx MC.mono hmc (hE4.trans (hE5.trans hE6))
  clear bx hmc hO4 hO5 hu5
  go_cut [] from 51 to 90 (fun wx => ∃ O d, OL RC 1 noY w3.heap.size 33 wx oo co O ∧ Hid (Shp n k O) ∧ Hid (RE n k (ent m) (ent O) d) ∧ Hid (HB 8 O) ∧ ExtX (ob oo) w6 wx)
  case first =>
    obtain ⟨v1, x1, y1, hv1⟩ := hO6.cell SlV.one i him
    obtain ⟨v2, x2, y2, hv2⟩ := hO6.cell SlV.one j hjm
    have hrv1 := RC.rv hv1 (hbm2.out _ (List.getElem_mem him))
    have hrv2 := RC.rv hv2 (hbm2.out _ (List.getElem_mem hjm))
    have i1 : ∀ W, (Instr.indexAt 23 (.slice oo n co) (.int .i64 (i : Int))).run Tryz.prog W = .ok (.pointer (some (adr oo i))) W := run_ix1 slRats oo n co .i64 i hhO (by omega) rfl
    have i2 : ∀ W, (Instr.indexAt 23 (.slice oo n co) (.int .i64 (j : Int))).run Tryz.prog W = .ok (.pointer (some (adr oo j))) W := run_ix1 slRats oo n co .i64 j hhO (by omega) rfl
    by_cases hij : i = j
    · subst hij
      have ht : (((i : Nat) : Int) != ((i : Nat) : Int)) = false := bneF rfl
      have k10 : w6.cell? ⟨b, 0, none⟩ = some (.bool s5) := r1.cell 0 rfl
      have k11 : w6.cell? ⟨b, 1, none⟩ = some (.slice a5 n5 c5) := r1.cell 1 rfl
      have k12 : w6.cell? ⟨b, 2, none⟩ = some (.slice d5 k5 e5) := r1.cell 2 rfl
      have hqv6 : QV (mk (un noY oo) w6) (.agg #[.bool s5, .slice a5 n5 c5, .slice d5 k5 e5]) f := hu6.qv (by have := hfq.out; omega)
      by_cases hf0 : f = 0
      · have hs0 : Hid (f.num.sign = 0) := hid (by rw [hf0]; rfl)
        clear hf0 i1 i2
        go_wp2_with fail
        refine (rqsign (un noY oo) w6 _ f hX6u hqv6).mono ?_
        rintro e w7 ⟨hE7, rfl⟩
        rw [hs0.out]
        clear k10 k11 k12
        go_wp2_with fail
        go_meet
        case rel => exact ⟨m, 1, hO6.ext0 RC.elem hE7, hsh', hid (.same fun _ _ _ _ => rfl), hid (hHB.out.mono (by decide)), ExtX.of hE7⟩
      · have hs0 : ((f.num.sign : Int) != 0) = true := bneT (by intro h; exact hf0 (Rat.num_eq_zero.1 (Int.sign_eq_zero_iff_zero.1 h)))
        have hok := mulRow_ok hsh'.out hin hf0 hHB.out hfq.out
        have hdef : Hid (mulRow m i f = m.set i (m[i].map (· * f))) := hid (by unfold mulRow; rw [getD_row him])
        have hl1 := hid (show m[i].length ≤ 1000000 by rw [hrl.out _ (List.getElem_mem _)]; omega)
        obtain ⟨L, hL⟩ : ∃ L, m[i].map (· * f) = L := ⟨_, rfl⟩
        have hLd := hid hL
        clear hf0
        go_wp2_with fail
        refine (rqsign (un noY oo) w6 _ f hX6u hqv6).mono ?_
        rintro e w7 ⟨hE7, rfl⟩
        generalize f.num.sign = sg at hs0
        have hO7 := hO6.ext0 RC.elem hE7
        have hEd7 : Ext w7 w7.drew := (ExtX.refl w7).drew
        have hE7d := hE7.trans hEd7
        have hti := rtimes (un noY oo) w7.drew v1 _ m[i] f (hX6u.ext hE7d) (mkx RV.mono hrv1 hE7d) (mkx QV.mono hqv6 hE7d) hl1.out
        rw [hL] at hti
        have j0 : w7.drew.cell? (adr oo i) = some v1 := hE7d.cell x1
        have r7 := r1.ext0 hE7d
        have j10 := r7.cell 0 rfl
        have j11 := r7.cell 1 rfl
        have j12 := r7.cell 2 rfl
        clear k10 k11 k12 hrv1 hrv2 hv1 hv2 hL
        go_upto_region 10 with (fail)
        go_region_with ((go_at_call 20; (with_reducible refine hti.mono ?_); rintro ee w8 ⟨t1, u8, rfl, a8, c8, rfl, hcl8, hs8⟩; have hO8 := hO7.ext0 RC.elem (hEd7.trans t1); obtain ⟨v9, x9, y9, _⟩ := hO8.cell SlV.one i him; have hset := hO8.set1 tyRats RC.elem SlV.one i him (.slice a8 L.length c8) L ⟨a8, c8, rfl, hcl8, hs8⟩))
        all_goals
          obtain ⟨hO9, hE9⟩ := hset
          rw [← hLd.out, ← hdef.out] at hO9
          rw [hLd.out] at hO9
          clear j0 j10 j11 j12 x9 y9 i1 i2
          go_wp2_with fail
          go_meet
          case rel => exact ⟨_, _, hO9, hid hok.1, hid hok.2.1, hid (hok.2.2.mono (by decide)), (ExtX.of (hE7d.trans t1)).trans hE9⟩
    · have ht : (((i : Nat) : Int) != ((j : Nat) : Int)) = true := bneT (by omega)
      have hne : adr oo i ≠ adr oo j := by
        obtain ⟨b0, o0, rfl⟩ := hhO (by omega)
        intro h; simp [adr] at h; exact hij h
      have hij' := hid hij
      have hne' := hid hne
      have hEx := hEd
      have hqv : QV (mk (un noY oo) w6.drew) (.agg #[.bool s5, .slice a5 n5 c5, .slice d5 k5 e5]) f := (mkx QC.mono hu6 hEd).qv (by have := hfq.out; omega)
      have k10 : w6.drew.cell? ⟨b, 0, none⟩ = some (.bool s5) := r1.cell 0 rfl
      have k11 : w6.drew.cell? ⟨b, 1, none⟩ = some (.slice a5 n5 c5) := r1.cell 1 rfl
      have k12 : w6.drew.cell? ⟨b, 2, none⟩ = some (.slice d5 k5 e5) := r1.cell 2 rfl
      have k0 : w6.drew.cell? (adr oo i) = some v1 := x1
      have k1 : w6.drew.cell? (adr oo j) = some v2 := x2
      have hl12 := hid (show m[j].length = m[i].length by rw [hrl.out _ (List.getElem_mem _), hrl.out _ (List.getElem_mem _)])
      have hl1 := hid (show m[i].length ≤ 1000000 by rw [hrl.out _ (List.getElem_mem _)]; omega)
      have hb2 := hid (show BR 2 m[j] from fun q hq => by have := hHB.out.bm _ (List.getElem_mem hjm) q hq; exact this)
      have hsum := sum_any (un noY oo) w6.drew v1 v2 _ m[i] m[j] f 2 hX6u hrv1 hrv2 hqv hl1.out hl12.out hb2.out (by have := hfq.out; omega)
      obtain ⟨L, hL⟩ : ∃ L, List.zipWith (· + ·) m[i] (m[j].map (· * f)) = L := ⟨_, rfl⟩
      rw [hL] at hsum
      have hL' := hid hL
      clear hij hne hL hrv1 hrv2 hv1 hv2
      go_upto_region 7 with (fail)
      go_region_with ((go_at_call 18; (with_reducible refine hsum.mono ?_); rintro ee w7 ⟨t1, u7, rfl, a7, c7, rfl, hcl7, hs7⟩; have hO7 := hO6.ext0 RC.elem (hEd.trans t1); obtain ⟨v9, x9, y9, _⟩ := hO7.cell SlV.one i him; have hset := hO7.set1 tyRats RC.elem SlV.one i him (.slice a7 L.length c7) L ⟨a7, c7, rfl, hcl7, hs7⟩))
      all_goals
        obtain ⟨hO8, hE8⟩ := hset
        obtain ⟨w8, hw8⟩ : ∃ w8, w7.setCell (adr oo i) (.slice a7 L.length c7) = w8 := ⟨_, rfl⟩
        rw [hw8] at hO8 hE8 ⊢
        have hE68 : ExtX (ob oo) w6 w8 := hO6.ext_own (hEd.trans t1) hE8
        clear hw8 k0 k1 k10 k11 k12 hO7 x9 y9 x1 x2 y1 y2
        have him8 : i < (m.set i L).length := by rw [List.length_set]; exact him
        have hjm8 : j < (m.set i L).length := by rw [List.length_set]; exact hjm
        obtain ⟨z1, p1, q1, hz1⟩ := hO8.cell SlV.one i him8
        obtain ⟨z2, p2, q2, hz2⟩ := hO8.cell SlV.one j hjm8
        obtain ⟨hA, hEA⟩ := hO8.set1 tyRats RC.elem SlV.one i him8 z2 _ hz2
        obtain ⟨z3, p3, q3, _⟩ := hA.cell SlV.one j (by rw [List.length_set]; exact hjm8)
        obtain ⟨hB, hEB⟩ := hA.set1 tyRats RC.elem SlV.one j (by rw [List.length_set]; exact hjm8) z1 _ (RC.mono _ _ _ _ (mkun_over hEA (.inl rfl)) hz1)
        have hfin : Hid (((m.set i L).set i (m.set i L)[j]).set j (m.set i L)[i] = addSwap m i j f) := hid (by
          unfold addSwap
          rw [getD_row him, getD_row hjm, hL'.out]
          unfold swapL
          rw [getD_row him8, getD_row hjm8])
        rw [hfin.out] at hB
        have hEAB := (hEA.trans hEB).drew
        have hBd := hB.ext0 RC.elem ((ExtX.refl (Y := noY) _).drew)
        obtain ⟨b1, g1, rfl, _⟩ := hz1
        obtain ⟨b2, g2, rfl, _⟩ := hz2
        have hok := addSwap_ok (f := f) hsh'.out hin hjn hij'.out hHB.out hfq.out
        clear hA hB hEA hEB hO8
        have hlen1 : (m.set i L)[i].length = L.length := by rw [List.getElem_set_self]
        have hp3 := p3
        have hq3 := q3
        have hq1 := q1
        rw [hlen1] at hBd hEAB p1
        clear hlen1
        go_upto_region 8 with (fail)
        go_region
        clear p1 p2 p3 q1 q2 q3 hp3 hq3 hq1 i1 i2
        go_wp2_with fail
        go_meet
        case rel => exact ⟨_, _, hBd, hid hok.1, hid hok.2.1, hid (hok.2.2.mono (by decide)), hE68.trans hEAB⟩
  case rest =>
    obtain ⟨O, d, hOc, hOs, hOr, hOh, hE7⟩ := hcut
    have hEw : Ext w wc := hE06.then_ hE7 fun q hq _ => hO6.ob_lt (by omega)
    have hXc := hX.ext hEw
    have hmcc : MC (mk noY wc) (.slice mo n cm) m := MC.mono _ _ _ _ (mk_sub fun q _ hq => un_left hq) (MC.mono _ _ _ _ (mk_mono hE7 fun q hq => un_right hq) hmc3u)
    have hOcm : MC (mk noY wc) (.slice oo n co) O := ⟨oo, co, by rw [hOs.out.1], by have := hOc.lenCap; exact this, hOc.sl RC.elem⟩
    have hpw : 35 ^ n ≤ 1500625 := Nat.le_trans (Nat.pow_le_pow_right (by omega) hn1.2) (by decide)
    have hf1 := hid (shp_formed hsh'.out (by omega) (by omega) (by omega))
    have hf2 := hid (shp_formed hOs.out (by omega) (by omega) (by omega))
    have hcm1 := hid (shp_cols hsh'.out (by omega))
    have hcm2 := hid (shp_cols hOs.out (by omega))
    have ht1 : Tame m k := tame_of hsh'.out hHB.out (by omega)
    have ht2 : Tame O k := tame_of hOs.out hOh.out (by omega)
    obtain ⟨hrs, hrr, d', hrd⟩ := redP_ok hsh'.out
    have hrh := hid (hb_redP (c := k) hHB.out hsh'.out)
    have ht3 : Tame (redP m k).1 k := tame_red hrs hrr hrh.out (by omega)
    have heq1 := hid (red_re hsh'.out hOs.out hOr.out)
    have heq2 := hid (red_red hsh'.out)
    have hR1 := preduce_ok noY wc _ m hXc (hmcc.mv hbm2.out) hf1.out (by rw [hcm1.out]; exact ht1)
    rw [hcm1.out] at hR1
    have hf3 := hid (shp_formed hrs (by omega) (by omega) (by omega))
    have hcm3 := hid (shp_cols hrs (by omega))
    have hrb := hid (show BM 68719476736 (redP m k).1 from fun r hr q hq => Nat.le_trans (hrh.out.bm r hr q hq) (Nat.le_trans (Nat.mul_le_mul_right 2 hpw) (by decide)))
    have hrl2 := hid hrs
    obtain ⟨⟨R, p⟩, hRe⟩ : ∃ S, redP m k = S := ⟨_, rfl⟩
    rw [hRe] at hR1 heq1 heq2 hf3 hcm3 hrb hrl2 ht3
    have hpl : Hid (p.length ≤ 4) := hid (by have h9 : (redP m k).2.length ≤ n := hrr.le; rw [hRe] at h9; exact Nat.le_trans h9 hn1.2)
    clear hrs hrr hrd hrh hRe hmc3u hmc6 hOc
    go_wp2_with fail
    refine hR1.mono ?_
    rintro e w7 ⟨hE8, ur, vp, rfl, hur, hvp⟩
    have hX7 := hXc.ext hE8
    have hR2 := preduce_ok noY w7 _ O hX7 ((mkx MC.mono hOcm hE8).mv (fun r hr q hq => Nat.le_trans (hOh.out.bm r hr q hq) (by decide))) hf2.out (by rw [hcm2.out]; exact ht2)
    rw [hcm2.out, ← heq1.out] at hR2
    go_wp2_with fail
    refine hR2.mono ?_
    rintro e w8 ⟨hE9, us, vq, rfl, hus, hvq⟩
    have hX8 := hX7.ext hE9
    have hR3 := preduce_ok noY w8 _ R hX8 ((mkx MC.mono hur hE9).mv hrb.out) hf3.out (by rw [hcm3.out]; exact ht3)
    rw [hcm3.out, heq2.out] at hR3
    go_wp2_with fail
    refine hR3.mono ?_
    rintro e w9 ⟨hE10, ut, vt, rfl, hut, hvt⟩
    go_wp2_with fail
    refine (awake6_any w9).mono ?_
    rintro e w10 ⟨hE11, rfl⟩
    have hur10 := mkx MC.mono hur (hE9.trans (hE10.trans hE11))
    have hus10 := mkx MC.mono hus (hE10.trans hE11)
    have hut10 := mkx MC.mono hut hE11
    have hlen9 := hid (show R.length ≤ 1099511627776 by have := hrl2.out.1; omega)
    have hrl9 := hid (show ∀ r ∈ R, r.length ≤ 1099511627776 from fun r hr => by have := hrl2.out.2 r hr; omega)
    go_wp2_with fail
    refine (rqsamelists noY w10 _ _ R R hur10 hus10 hrb.out hlen9.out hrl9.out).mono ?_
    rw [decide_eq_true (rfl : R = R)]
    rintro e w11 ⟨hE12, rfl⟩
    have hvp11 := SlV.mono (NatIn.mono _) 1 _ _ _ _ (mk_ext (hE9.trans (hE10.trans (hE11.trans hE12)))) hvp
    have hvq11 := SlV.mono (NatIn.mono _) 1 _ _ _ _ (mk_ext (hE10.trans (hE11.trans hE12))) hvq
    obtain ⟨pa, pca, rfl, hpca, hpsa⟩ := hvp11
    obtain ⟨qa, qca, rfl, hqca, hqsa⟩ := hvq11
    go_wp2_with fail
    refine (rsamei_any noY _ _ p p _ _ w11 hpsa hqsa (by have := hpl.out; omega)).mono ?_
    rintro e w12 ⟨rfl, m12, hw12⟩
    have hE13 : Ext w11 w12 := by rw [hw12]; exact (ExtX.refl w11).drewN _
    have hee : (p == p) = true := by simp
    rw [hee]
    clear hw12 hee
    go_wp2_with fail
    refine (rqsamelists noY w12 _ _ R R (mkx MC.mono hur10 (hE12.trans hE13)) (mkx MC.mono hut10 (hE12.trans hE13)) hrb.out hlen9.out hrl9.out).mono ?_
    rw [decide_eq_true (rfl : R = R)]
    rintro e w13 ⟨hE14, rfl⟩
    go_wp2_with fail
    go_ret
    exact ⟨hEw.trans (hE8.trans (hE9.trans (hE10.trans (hE11.trans (hE12.trans (hE13.trans hE14)))))), rfl⟩
end Go.Proofs.YtjbhcniiioepgaaGreat

namespace Go.Proofs.YtjbhcniiioepgaaGreat
open Go.ChangeShapes Go.WideShapes Go.ChangeAt Go.RowKit Go.Rep Go.Deep

section
variable {H : Type} {enc : TypeId × Value → H} {w : World} {base : Nat} {spare : Nat → Bool} {held : Bool}

theorem adr_some {x : Addr} {v : Value} (h : w.cell? (x.add 0) = some v) : (∀ j, x.add j = adr (some x) j) ∧ ∃ b off, x = ⟨b, off, none⟩ := by
  have hs := World.cell?_spot h
  obtain ⟨b, off, spot⟩ := x
  have hspot : spot = none := by simpa [Addr.add] using hs
  subst hspot
  exact ⟨fun j => by rw [Addr.add_lit]; simp [adr], b, off, rfl⟩

theorem ints_of {fuel : Nat} {v : Value} {x : DataW H × List MemPlace} (h : DataW.trod enc Tryz.prog w base spare held fuel 22 [v] = some x) :
    ∃ (a : Option Addr) (l : List Int) (cap : Nat), v = .slice a l.length cap ∧ l.length ≤ cap ∧ l.length ≤ 9223372036854775807 ∧ Sl (IntIn .i64) 1 w.cell? a l := by
  rcases open_ints Tryz.underlying22 Tryz.underlying3 (by kernel_rfl) h with ⟨hcs, _⟩ | ⟨x, len, c, zs, hcs, _, hl, hm, hz, _, hcell, _⟩
  · refine ⟨none, [], 0, by simpa using hcs, by simp, by simp, Sl.nil _ _ _ _⟩
  · have hzl : len ≤ zs.length := by
      rw [hz]; split <;> omega
    have hlen : (zs.take len).length = len := by simp; omega
    have hmax : c ≤ 9223372036854775807 := by simpa [maxLen] using hm
    refine ⟨some x, zs.take len, c, by rw [hlen]; simpa using hcs, by omega, by omega, fun h0 => ?_, fun i hi => ?_⟩
    · obtain ⟨_, b, off, hx⟩ := adr_some (hcell 0 (by omega))
      exact ⟨b, off, by rw [hx]⟩
    · have hi' : i < zs.length := by omega
      refine ⟨.int .i64 (zs.take len)[i], rfl, fun j hj => ?_, rfl⟩
      have hj0 : j = 0 := by simp [Value.cells] at hj; exact hj
      subst hj0
      have h1 := hcell i hi'
      have h2 := (adr_some (hcell 0 (by omega))).1 i
      rw [h2] at h1
      simp only [Nat.mul_one, Nat.add_zero, List.getElem_take]
      rw [h1]
      simp [List.getD_eq_getElem?_getD, hi', Value.cells]

end
end Go.Proofs.YtjbhcniiioepgaaGreat

namespace Go.Proofs.YtjbhcniiioepgaaGreat
open Go.ChangeShapes Go.WideShapes Go.ChangeAt Go.RowKit Go.Rep Go.Deep
theorem rng_i64 {n : Int} (h : (Lit.int .i64 n).wf = true) : -9223372036854775808 ≤ n ∧ n ≤ 9223372036854775807 := by
  unfold Lit.wf at h
  simpa [IntKind.min, IntKind.max, IntKind.signed, IntKind.bits] using h
theorem rng_u8 {n : Int} (h : (Lit.int .u8 n).wf = true) : 0 ≤ n ∧ n < 256 := by
  unfold Lit.wf at h
  have : 0 ≤ n ∧ n ≤ 255 := by simpa [IntKind.min, IntKind.max, IntKind.signed, IntKind.bits] using h
  omega
section
variable {H : Type} {enc : TypeId × Value → H} {P : Program} {w : World} {base : Nat} {spare : Nat → Bool} {held : Bool}
theorem trodAll_six {t0 t1 t2 t3 t4 t5 : TypeId} {args : Array Value} {ds : List (DataW H)} {ps : List MemPlace} (h : DataW.TrodAll enc P w base spare held [t0, t1, t2, t3, t4, t5] args.toList ds ps) :
    ∃ v0 v1 v2 v3 v4 v5 d0 d1 d2 d3 d4 d5 p0 p1 p2 p3 p4 p5, args = #[v0, v1, v2, v3, v4, v5] ∧ ds = [d0, d1, d2, d3, d4, d5] ∧ ps = p0 ++ (p1 ++ (p2 ++ (p3 ++ (p4 ++ p5)))) ∧ DataW.Trod enc P w base spare held t0 v0 d0 p0 ∧ DataW.Trod enc P w base spare held t1 v1 d1 p1 ∧ DataW.Trod enc P w base spare held t2 v2 d2 p2 ∧ DataW.Trod enc P w base spare held t3 v3 d3 p3 ∧ DataW.Trod enc P w base spare held t4 v4 d4 p4 ∧ DataW.Trod enc P w base spare held t5 v5 d5 p5 := by
  obtain ⟨v0, vs0, d0, ds0, p0, q0, hargs, rfl, rfl, h0, r0⟩ := trodAll_cons h
  obtain ⟨v1, vs1, d1, ds1, p1, q1, rfl, rfl, rfl, h1, r1⟩ := trodAll_cons r0
  obtain ⟨v2, vs2, d2, ds2, p2, q2, rfl, rfl, rfl, h2, r2⟩ := trodAll_cons r1
  obtain ⟨v3, vs3, d3, ds3, p3, q3, rfl, rfl, rfl, h3, r3⟩ := trodAll_cons r2
  obtain ⟨v4, vs4, d4, ds4, p4, q4, rfl, rfl, rfl, h4, r4⟩ := trodAll_cons r3
  obtain ⟨v5, vs5, d5, ds5, p5, q5, rfl, rfl, rfl, h5, r5⟩ := trodAll_cons r4
  obtain ⟨rfl, rfl, rfl⟩ := trodAll_nil r5
  refine ⟨v0, v1, v2, v3, v4, v5, d0, d1, d2, d3, d4, d5, p0, p1, p2, p3, p4, p5, ?_, rfl, by simp, h0, h1, h2, h3, h4, h5⟩
  cases args; simp_all
theorem ints_wf {fuel : Nat} {v : Value} {x : DataW H × List MemPlace} (h : DataW.trod enc Tryz.prog w base spare held fuel 22 [v] = some x) :
    ∃ (a : Option Addr) (l : List Int) (cap : Nat), v = .slice a l.length cap ∧ l.length ≤ cap ∧ l.length ≤ 9223372036854775807 ∧ Sl (IntIn .i64) 1 (mk noY w) a l ∧ ∀ x ∈ l, -9223372036854775808 ≤ x ∧ x ≤ 9223372036854775807 := by
  rw [mk_noY]
  rcases open_ints Tryz.underlying22 Tryz.underlying3 (by kernel_rfl) h with ⟨hcs, _⟩ | ⟨x, len, c, zs, hcs, _, hl, hm, hz, _, hcell, hwf⟩
  · refine ⟨none, [], 0, by simpa using hcs, by simp, by simp, Sl.nil _ _ _ _, by simp⟩
  · have hzl : len ≤ zs.length := by
      rw [hz]; split <;> omega
    have hlen : (zs.take len).length = len := by simp; omega
    have hmax : c ≤ 9223372036854775807 := by simpa [maxLen] using hm
    refine ⟨some x, zs.take len, c, by rw [hlen]; simpa using hcs, by omega, by omega, ⟨fun h0 => ?_, fun i hi => ?_⟩, fun y hy => rng_i64 (hwf y (List.mem_of_mem_take hy))⟩
    · obtain ⟨_, b, off, hx⟩ := adr_some (hcell 0 (by omega))
      exact ⟨b, off, by rw [hx]⟩
    · have hi' : i < zs.length := by omega
      refine ⟨.int .i64 (zs.take len)[i], rfl, fun j hj => ?_, rfl⟩
      have hj0 : j = 0 := by simp [Value.cells] at hj; exact hj
      subst hj0
      have h1 := hcell i hi'
      have h2 := (adr_some (hcell 0 (by omega))).1 i
      rw [h2] at h1
      simp only [Nat.mul_one, Nat.add_zero, List.getElem_take]
      rw [h1]
      simp [List.getD_eq_getElem?_getD, hi', Value.cells]
end
end Go.Proofs.YtjbhcniiioepgaaGreat

namespace Go.Proofs.YtjbhcniiioepgaaGreat.seat
open Go.RowKit
theorem and_t {a b : Bool} (h1 : a = true) (h2 : b = true) : (a && b) = true := by rw [h1, h2]; rfl
theorem laid : laidOutB Tryz.pinned.checked.prog = true := by kernel_rfl
theorem maps : mapsRowed Tryz.pinned.checked.prog = true := by kernel_rfl
theorem stops : (Program.stops Tryz.pinned.checked.prog == []) = true := by kernel_rfl
theorem knobs : (Program.stopKnobs Tryz.pinned.checked.prog == []) = true := by kernel_rfl
theorem heard : Program.stopsHeard Tryz.pinned.checked.prog = true := by kernel_rfl
theorem enter : Program.mayEnter Tryz.pinned.checked.prog = true := by kernel_rfl
theorem lifts : (Rows.matrixReducedFormIsUniqueRow.lifted == Program.liftsFinal Tryz.pinned.checked.prog) = true := by kernel_rfl
theorem make : (Program.make Tryz.pinned.checked.prog == some Rows.matrixReducedFormIsUniqueRow.make) = true := by kernel_rfl
theorem plain : (Rows.matrixReducedFormIsUniqueRow.plainKeys == Program.plainKeys Tryz.pinned.checked.prog) = true := by kernel_rfl
end Go.Proofs.YtjbhcniiioepgaaGreat.seat
