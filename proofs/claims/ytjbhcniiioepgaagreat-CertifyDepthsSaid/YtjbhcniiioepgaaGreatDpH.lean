/- reference 23: Dot. Conditions: few numbers of at most 2^36 digits. reference 23: Shape. Conditions: lengths far below any machine's. reference 25: Count. Conditions: numbers of at most 10^10 digits. reference 42: Halfspace. Conditions: numbers of at most 10^10 digits. certify.apart, certify.read, within. Conditions: lengths far below any machine's. certify.Cover. Conditions: lengths far below any machine's. The reference's Cover. Conditions: lengths far below any machine's. law42.awake: it returns true. Conditions: none. law 42: CertifyDepths. Conditions: none. Arguments, opened to lists: []int. Conditions: none. Arguments, opened: six of them; bounds of integers; []int with its numbers' bounds. Conditions: none. Facts of the whole program that each row asks for. Conditions: none. -/
import Derived.Test.YtjbhcniiioepgaaGreatDpG
import Derived.WalkKit
import Derived.ProofKit
import Derived.OpenShut
import Derived.ShutString
import Derived.ChangeOld
import Derived.Below
import Derived.Deep.Slices
import Derived.Deep.Fields
import Derived.ChangeSame
import Derived.Test.YtjbhcniiioepgaaGreatRows
import Derived.JoinedOf
namespace Go.Proofs.YtjbhcniiioepgaaGreat
open Go.RowKit Go.Rep Go.Lim Go.Lin

set_option maxRecDepth 100000 in
set_option maxHeartbeats 1600000 in
theorem rdot23_any (X : Nat → Bool) (w : World) (u v : Value) (l m : List Rat) (hX : HX X w) (hu : RV (mk X w) u l) (hv : RV (mk X w) v m) (hn : l.length ≤ 1000000) (hml : m.length = l.length) (hb1 : ∀ k, k ≤ l.length → hq (dotN l m k) ≤ 68719476736) (hb2 : ∀ k, k < l.length → hq (l.getD k 0 * m.getD k 0) ≤ 68719476736) :
    Calls Tryz.prog 132 #[u, v] w (ROut X w QC (dotL l m)) := by
  obtain ⟨ao, ca, rfl, hca, hsa⟩ := hu
  obtain ⟨bo, cb, rfl, hcb, hsb⟩ := hv
  have hha := hsa.hd
  have hhb := hsb.hd
  obtain ⟨W, hW, hE, b0, b1, hz⟩ := boxes2 w #[.bool false, .slice none 0 0, .slice none 0 0] #[.bool false, .slice none 0 0, .slice none 0 0] 31 31
  have hXW : HX (hidB X w.heap.size 2) W := hX.boxes hz
  have h0 : QC (mk (hidB X w.heap.size 2) W) (.agg #[.bool false, .slice none 0 0, .slice none 0 0]) (dotN l m 0) := QC.zero _
  obtain ⟨n, hln⟩ : ∃ n, l.length = n := ⟨_, rfl⟩
  rw [hln] at hn hml hb1 hb2 hca hha ⊢
  rw [hml] at hcb hhb ⊢
  have hln' := hid hln
  have hml' := hid hml
  have hb1' := hid hb1
  have hb2' := hid hb2
  have hdot : Hid (dotN l m n = dotL l m) := hid (by unfold dotL; rw [hln])
  clear hln hml hb1 hb2
  go_enter Tryz.func132, Tryz.ntmps132
  go_wp2_with fail
  obtain ⟨b, hb⟩ : ∃ b, w.heap.size = b := ⟨_, rfl⟩
  have hle : Hid (∀ wr, Ext w wr → Le (mk X w) (mk (hidB X b 2) wr)) := hid fun wr h => by rw [← hb]; exact le_boxes h
  have hbw : w.heap.size ≤ b := by omega
  rw [hb] at b0 b1 hXW h0 ⊢
  clear hW
  go_loopw [9] (fun k wr => ∃ (i : Nat) (s : Bool) (a : Option Addr) (n' c' : Nat) (d : Option Addr) (kk e : Nat), k = .int .i64 i ∧ i ≤ n ∧ Bx wr b #[.bool false, .slice none 0 0, .slice none 0 0] 31 ∧ Bx wr (b + 1) #[.bool s, .slice a n' c', .slice d kk e] 31 ∧ QC (mk (hidB X b 2) wr) (.agg #[.bool s, .slice a n' c', .slice d kk e]) (dotN l m i) ∧ HX (hidB X b 2) wr ∧ Ext w wr) (fun k _ => n - (intOf k).toNat)
  case atStart => exact ⟨0, _, _, _, _, _, _, _, rfl, Nat.zero_le _, b0, b1, h0, hXW, hE⟩
  case round =>
    obtain ⟨i, s, a, n', c', d, kk, e, rfl, hi, b0, b1, hq, hXr, hEr⟩ := hrel
    by_cases hlt : i < n
    · have hil : i < l.length := by rw [hln'.out]; exact hlt
      have him : i < m.length := by rw [hml'.out]; exact hlt
      have hsr := hsa.mono QV.mono (hle.out wr hEr)
      have hsr2 := hsb.mono QV.mono (hle.out wr hEr)
      obtain ⟨g1, o1, s1, p1, n1, q1, d1, k1, e1, hg1, hX1, hc1, hq1⟩ := hsr.rat QV.shaped i hil
      obtain ⟨g2, o2, s2, p2, n2, q2, d2, k2, e2, hg2, hX2, hc2, hq2⟩ := hsr2.rat QV.shaped i him
      have gl : Hid (l.getD i 0 = l[i]) := hid (by simp [List.getD_eq_getElem?_getD, hil])
      have gm : Hid (m.getD i 0 = m[i]) := hid (by simp [List.getD_eq_getElem?_getD, him])
      have hst : Hid (dotN l m i + l[i] * m[i] = dotN l m (i + 1)) := hid (by rw [← gl.out, ← gm.out]; rfl)
      have hbo := hid (hb1'.out i hi)
      have hbp := hid (hb2'.out i hlt)
      rw [gl.out, gm.out] at hbp
      obtain ⟨x, hx⟩ : ∃ x, l[i] = x := ⟨_, rfl⟩
      obtain ⟨y, hy⟩ : ∃ y, m[i] = y := ⟨_, rfl⟩
      rw [hx, hy] at hst hbp
      rw [hx] at hq1
      rw [hy] at hq2
      have i1 : ∀ W, (Instr.indexAt 33 (.slice ao n ca) (.int .i64 (i : Int))).run Tryz.prog W = .ok (.pointer (some ⟨g1, o1, none⟩)) W := by rw [← hg1]; exact run_indexAt_adr slRat ao n ca .i64 i hha (by omega)
      have i2 : ∀ W, (Instr.indexAt 33 (.slice bo n cb) (.int .i64 (i : Int))).run Tryz.prog W = .ok (.pointer (some ⟨g2, o2, none⟩)) W := by rw [← hg2]; exact run_indexAt_adr slRat bo n cb .i64 i hhb (by omega)
      obtain ⟨D, hD⟩ : ∃ D, dotN l m i = D := ⟨_, rfl⟩
      obtain ⟨D2, hD2⟩ : ∃ D2, dotN l m (i + 1) = D2 := ⟨_, rfl⟩
      rw [hD] at hq hst hbo
      rw [hD2] at hst
      have hD2' := hid hD2
      clear hx hy hg1 hg2 hD hD2
      have hE5d : Ext wr wr.drew := (ExtX.refl wr).drew
      have b05 := b0.ext0 hE5d
      have b15 := b1.ext0 hE5d
      have k00 := b15.cell 0 rfl
      have k01 := b15.cell 1 rfl
      have k02 := b15.cell 2 rfl
      obtain ⟨k10, k11, k12⟩ := hc1.out noY wr.drew hE5d rfl
      obtain ⟨k20, k21, k22⟩ := hc2.out noY wr.drew hE5d rfl
      have hXd := hXr.ext hE5d
      have hx5 : QV (mk (hidB X b 2) wr.drew) (.agg #[.bool s1, .slice p1 n1 q1, .slice d1 k1 e1]) x := mkx QV.mono hq1 hE5d
      have hy5 : QV (mk (hidB X b 2) wr.drew) (.agg #[.bool s2, .slice p2 n2 q2, .slice d2 k2 e2]) y := mkx QV.mono hq2 hE5d
      have hq5 : QV (mk (hidB X b 2) wr.drew) (.agg #[.bool s, .slice a n' c', .slice d kk e]) D := (mkx QC.mono hq hE5d).qv hbo.out
      clear hc1 hc2
      go_wp2_with fail
      go_region_with (first | (go_at_call 57; (with_reducible refine (rqmul (hidB X b 2) wr.drew _ _ _ _ hXd hx5 hy5).mono ?_); rintro ee w6 ⟨t1, u6, rfl, hu6⟩; obtain ⟨s6, a6, n6, c6, d6, k6, e6, rfl⟩ := hu6.shape; have hX6 := hXd.ext t1; have hq6 := mkx QV.mono hq5 t1; have hm6 := hu6.qv hbp.out; have b16 := b15.ext0 t1; have m0 := b16.cell 0 rfl; have m1 := b16.cell 1 rfl; have m2 := b16.cell 2 rfl) | (go_at_call 87; (with_reducible refine (rqadd (hidB X b 2) w6 _ _ _ _ hX6 hq6 hm6).mono ?_); rintro ee w7 ⟨t7, u7, rfl, hu7⟩; obtain ⟨s7, a7, n7, c7, d7, k7, e7, rfl⟩ := hu7.shape; rw [hst.out] at hu7; have b17 := b16.ext0 t7; have g0 := b17.cell 0 rfl; have g1' := b17.cell 1 rfl; have g2' := b17.cell 2 rfl; have f0 := b17.frozen 0; have f1 := b17.frozen 1; have f2 := b17.frozen 2))
      all_goals
        obtain ⟨z1, z2⟩ := b17.set3 (.bool s7) (.slice a7 n7 c7) (.slice d7 k7 e7)
        have h8 := QC.mono _ _ _ _ (le_store (lo := b) (nb := 2) z2 (by omega) (by omega)) hu7
        have b08 := ((b05.ext0 t1).ext0 t7).ext z2 (ob_other (by omega))
        have hE8 : Ext w _ := ExtX.box (hEr.trans (hE5d.trans (t1.trans t7))) z2 (by omega)
        have hX8 := (hX6.ext t7).ext z2
        rw [← hD2'.out] at h8
        clear k00 k01 k02 k10 k11 k12 k20 k21 k22 m0 m1 m2 g0 g1' g2' f0 f1 f2 i1 i2
        go_wp2_with fail
        go_roundw
        case rel => exact ⟨i + 1, _, _, _, _, _, _, _, by go_num, by omega, b08, z1, h8, hX8, hE8⟩
        case measure => simp [intOf]; omega
    · have hin : i = n := by omega
      subst hin
      rw [hdot.out] at hq
      have k00 := b1.cell 0 rfl
      have k01 := b1.cell 1 rfl
      have k02 := b1.cell 2 rfl
      go_wp2_with ((with_reducible show wpList _ _ _ (⟨_, .store _ _ _, _, _, _, _⟩ :: _) _ _); refine st_storeBox stRat rfl rfl b0 rfl rfl (one3 _ _ _ _ _ _ _) ?_; intro w7 r1 r2)
      have h7 := QC.mono _ _ _ _ le_unbox (QC.mono _ _ _ _ (le_store r2 (by omega) (by omega)) hq)
      exact bodyPost_ret (results_box rfl rfl stRat r1 rfl) rfl ⟨ExtX.box hEr r2 (by omega), _, rfl, h7⟩
end Go.Proofs.YtjbhcniiioepgaaGreat


namespace Go.Proofs.YtjbhcniiioepgaaGreat
open Go.RowKit Go.Rep Go.Lim Go.Lin

/-- The numbers of rows and columns, and whether these are points. -/
def ShOut (w : World) (m : List (List Rat)) (e : Ending) (w' : World) : Prop := Ext w w' ∧ ∃ a b : Nat, e = .returned (.tuple #[.int .i64 (a : Int), .int .i64 (b : Int), .bool (ptsB m)]) ∧ (ptsB m = true → a = m.length ∧ b = colsL m)
theorem ptsB_no1 {α : Type} {m : List (List α)} (h : m.length < 1 ∨ 64 < m.length) : ptsB m = false := by
  cases hp : ptsB m
  · rfl
  · have := ptsB_true.1 hp; omega
theorem ptsB_no2 {α : Type} {m : List (List α)} (i : Nat) (hi : i < m.length) (h : m[i].length ≠ colsL m) : ptsB m = false := by
  cases hp : ptsB m
  · rfl
  · exact absurd ((ptsB_true.1 hp).2.2.2.2 i hi) h
theorem ptsB_no3 {α : Type} {m : List (List α)} (h : colsL m < 1 ∨ 3 < colsL m) : ptsB m = false := by
  cases hp : ptsB m
  · rfl
  · have := ptsB_true.1 hp; omega

set_option maxRecDepth 100000 in
theorem rshape_any {R : Mem → Value → Rat → Prop} (hR : Mono R) (X : Nat → Bool) (w : World) (u : Value) (m : List (List Rat)) (hu : SlV (SlV R 3) 1 (mk X w) u m) (hl : m.length ≤ 1099511627776) : Calls Tryz.prog 66 #[u] w (ShOut w m) := by
  obtain ⟨ao, ca, rfl, hca, hsa⟩ := hu
  have hha := hsa.hd
  by_cases h1 : m.length < 1
  · have d1 : (m.length : Int) < 1 := by omega
    have hv := hid (ptsB_no1 (m := m) (.inl h1))
    go_enter Tryz.func66, Tryz.ntmps66
    go_wp2_with fail
    go_ret3
    exact ⟨ExtX.refl _, 0, 0, by rw [hv.out]; rfl, fun h => by rw [hv.out] at h; simp at h⟩
  by_cases h2 : 64 < m.length
  · have d1 : ¬ (m.length : Int) < 1 := by omega
    have d2 : (64 : Int) < (m.length : Int) := by omega
    have hv := hid (ptsB_no1 (m := m) (.inr h2))
    go_enter Tryz.func66, Tryz.ntmps66
    go_wp2_with fail
    go_ret3
    exact ⟨ExtX.refl _, 0, 0, by rw [hv.out]; rfl, fun h => by rw [hv.out] at h; simp at h⟩
  have d1 : ¬ (m.length : Int) < 1 := by omega
  have d2 : ¬ (64 : Int) < (m.length : Int) := by omega
  have h0 : 0 < m.length := by omega
  obtain ⟨n, hn⟩ : ∃ n, m.length = n := ⟨_, rfl⟩
  have hn' := hid hn
  obtain ⟨a2, c2, hX2, hc2, hcl2, hq2⟩ := hsa.row 0 h0
  have k10 := hc2.out noY w (ExtX.refl _) rfl
  have hcol := colsL_pos h0
  rw [← hcol] at k10
  have hno2 := hid (fun i hi h => ptsB_no2 (m := m) i hi h)
  have hno3 := hid (fun h => ptsB_no3 (m := m) h)
  have hyes : Hid ((∀ q, q < n → ∀ hq : q < m.length, m[q].length = colsL m) → 1 ≤ colsL m → colsL m ≤ 3 → ptsB m = true) := hid fun h3 h4 h5 => ptsB_true.2 ⟨by omega, by omega, h4, h5, fun i hi => h3 i (by omega) hi⟩
  obtain ⟨y, hy⟩ : ∃ y, colsL m = y := ⟨_, rfl⟩
  have hy' := hid hy
  rw [hy] at k10 hno3 hyes
  have hn64 : n ≤ 64 := by omega
  have hn1 : 1 ≤ n := by omega
  rw [hn] at d1 d2 hha ⊢
  clear hcol hc2 hq2 hcl2 h1 h2 h0 hn hy hca
  go_enter Tryz.func66, Tryz.ntmps66
  go_wp2_with (with_reducible refine up_ix1 slRats (by omega) (by assumption) ?_)
  go_loop [22] (fun cc => ∃ i : Nat, cc = .int .i64 i ∧ i ≤ n ∧ Hid (∀ q, q < i → ∀ hq : q < m.length, m[q].length = colsL m)) (fun cc => n - (intOf cc).toNat)
  case atStart => exact ⟨0, rfl, Nat.zero_le _, hid fun q hq => by omega⟩
  case round =>
    obtain ⟨i, rfl, hi, hok⟩ := hrel
    by_cases hlt : i < n
    · have hil : i < m.length := by rw [hn'.out]; exact hlt
      obtain ⟨a1, c1, hX1, hc1, hcl1, hq1⟩ := hsa.row i hil
      have k00 := hc1.out noY w (ExtX.refl _) rfl
      have hn2 := hid (hno2.out i hil)
      obtain ⟨x, hx⟩ : ∃ x, m[i].length = x := ⟨_, rfl⟩
      have hst : Hid (x = y → ∀ hq : i < m.length, m[i].length = colsL m) := hid fun h hq => by rw [hx, hy'.out]; exact h
      rw [hx, hy'.out] at hn2
      rw [hx] at k00
      clear hx hc1 hq1 hcl1
      by_cases hxy : x = y
      · have e1 : ((x : Int) != (y : Int)) = false := bneF (by omega)
        have hst2 := hid (hst.out hxy)
        clear hxy
        go_wp2_with (with_reducible refine up_ix1 slRats (by omega) (by assumption) ?_)
        go_round
        case rel => exact ⟨i + 1, by go_num, by omega, hid (upto_succ hok.out hst2.out)⟩
        case measure => simp [intOf]; omega
      · have e1 : ((x : Int) != (y : Int)) = true := bneT (by omega)
        have hv := hid (hn2.out hxy)
        clear hxy
        go_wp2_with (with_reducible refine up_ix1 slRats (by omega) (by assumption) ?_)
        go_ret3
        exact ⟨ExtX.refl _, 0, 0, by rw [hv.out]; rfl, fun h => by rw [hv.out] at h; simp at h⟩
    · have hin : i = n := by omega
      subst hin
      have hy2 := hid (hyes.out fun q h1 h2 => (hok.out q h1 h2).trans hy'.out)
      clear hlt k10
      by_cases h1 : 1 ≤ y
      · have e1 : (1 : Int) ≤ (y : Int) := by omega
        by_cases h3 : y ≤ 3
        · have e2 : (y : Int) ≤ 3 := by omega
          have hv := hid (hy2.out h1 h3)
          go_wp2_with fail
          go_ret3
          exact ⟨ExtX.refl _, i, y, by rw [hv.out]; rfl, fun _ => ⟨hn'.out.symm, hy'.out.symm⟩⟩
        · have e2 : ¬ (y : Int) ≤ 3 := by omega
          have hv := hid (hno3.out (.inr (by omega)))
          go_wp2_with fail
          go_ret3
          exact ⟨ExtX.refl _, i, y, by rw [hv.out]; rfl, fun _ => ⟨hn'.out.symm, hy'.out.symm⟩⟩
      · have e1 : ¬ (1 : Int) ≤ (y : Int) := by omega
        have hv := hid (hno3.out (.inl (by omega)))
        go_wp2_with fail
        go_ret3
        exact ⟨ExtX.refl _, i, y, by rw [hv.out]; rfl, fun _ => ⟨hn'.out.symm, hy'.out.symm⟩⟩
end Go.Proofs.YtjbhcniiioepgaaGreat


namespace Go.Proofs.YtjbhcniiioepgaaGreat
open Go.RowKit Go.Rep Go.Lim Go.Lin

set_option maxRecDepth 100000 in
set_option maxHeartbeats 1600000 in
theorem rcount_any (X : Nat → Bool) (w : World) (u v x : Value) (p : Mat) (y : List Rat) (us : Mat) (B C : Nat) (hX : HX X w) (hu : MV (mk X w) u p) (hv : RV (mk X w) v y) (hx : MV (mk X w) x us) (hp : p.length ≤ 1000) (hl : us.length ≤ 1000) (hpB : BM B p) (hyB : BR B y) (hC : BM C us) (hB : 1 ≤ B) (hC1 : 1 ≤ C) (hBC : 10 * (B + C) ≤ 68719476000) :
    Calls Tryz.prog 91 #[u, v, x] w (NEOut w (cntV p y us) (okE (cntOk p y us))) := by
  have hfi := rshape_any QV.mono X w u p hu (by omega)
  have hv0 := hv
  obtain ⟨va, vca, rfl, hvca, hva⟩ := hv
  obtain ⟨xa, xca, rfl, hxca, hxa⟩ := hx
  have hhx := hxa.hd
  cases hpts : ptsB p
  · have hz := cntOk_no1 (us := us) (y := y) (p := p) (by rw [hpts]; rfl)
    have hv1 : Hid (cntV p y us = 0) := hid (by unfold cntV; rw [hz]; rfl)
    have hv2 : Hid (okE (cntOk p y us) = 6) := hid (by rw [hz]; rfl)
    unfold ShOut at hfi
    rw [hpts] at hfi
    clear hz hpts
    go_enter Tryz.func91, Tryz.ntmps91
    go_wp2_with fail
    refine hfi.mono ?_
    rintro e w1 ⟨hE1, a, b, rfl, hab⟩
    clear hfi
    go_wp2_with fail
    go_ret2
    exact ⟨hE1, by rw [hv1.out, hv2.out]; rfl⟩
  by_cases hyc : y.length = colsL p
  rotate_left 1
  · have hz := cntOk_no1 (us := us) (y := y) (p := p) (by rw [hpts, decide_eq_false hyc]; rfl)
    have hv1 : Hid (cntV p y us = 0) := hid (by unfold cntV; rw [hz]; rfl)
    have hv2 : Hid (okE (cntOk p y us) = 6) := hid (by rw [hz]; rfl)
    unfold ShOut at hfi
    rw [hpts] at hfi
    clear hz hpts
    obtain ⟨c, hc⟩ : ∃ c, colsL p = c := ⟨_, rfl⟩
    obtain ⟨yl, hyl⟩ : ∃ yl, y.length = yl := ⟨_, rfl⟩
    rw [hc] at hfi
    rw [hc, hyl] at hyc
    rw [hyl] at hvca ⊢
    clear hc hyl
    go_enter Tryz.func91, Tryz.ntmps91
    go_wp2_with fail
    refine hfi.mono ?_
    rintro e w1 ⟨hE1, a, b, rfl, hab⟩
    obtain ⟨rfl, rfl⟩ := hab trivial
    have d1 : ((yl : Int) != (b : Int)) = true := bneT (by omega)
    clear hfi hyc
    go_wp2_with fail
    go_ret2
    exact ⟨hE1, by rw [hv1.out, hv2.out]; rfl⟩
  have hok1 : (ptsB p && decide (y.length = colsL p)) = true := by rw [hpts, decide_eq_true hyc]; rfl
  have hrow := ptsB_row hpts
  obtain ⟨hp1, hp64, hc1, hc3, _⟩ := ptsB_true.1 hpts
  obtain ⟨c, hc⟩ : ∃ c, colsL p = c := ⟨_, rfl⟩
  rw [hc] at hrow hyc hc1 hc3
  obtain ⟨M, hM⟩ : ∃ M, fromM c p y = M := ⟨_, rfl⟩
  have hMs : Shp p.length c M := by rw [← hM]; exact fromM_shp c p y
  have hcen := hid (fun w' (h : Ext w w') => rfrom25 X w' u (.slice va y.length vca) p y c (hX.ext h) (mkx MV.mono hu h) (mkx RV.mono hv0 h) hrow hyc (by omega) hp)
  have hMB : BM (2 * (B + C) + 1) M := by
    rw [← hM]
    exact fromM_bm (fun r hr q hq => Nat.le_trans (hpB r hr q hq) (by omega)) (fun q hq => Nat.le_trans (hyB q hq) (by omega)) (by omega)
  have hok := hid (fun h => cntOk_yes (us := us) hok1 h)
  have hno := hid (fun i hi h => cntOk_no2 (p := p) (y := y) (us := us) i hi h)
  have hval : Hid (cntOk p y us = true → cntV p y us = lexc c (vecs us) (vecs M)) := hid fun h => by unfold cntV; rw [h, hc, hM]; rfl
  have hbad : Hid (cntOk p y us = false → cntV p y us = 0) := hid fun h => by unfold cntV; rw [h]; rfl
  unfold ShOut at hfi
  rw [hpts, hc] at hfi
  rw [hM] at hcen
  rw [hyc] at hcen hvca hno ⊢
  obtain ⟨K, hK⟩ : ∃ K, cntV p y us = K := ⟨_, rfl⟩
  obtain ⟨O, hO⟩ : ∃ O, cntOk p y us = O := ⟨_, rfl⟩
  have hyc' := hid hyc
  rw [hK, hO] at hval
  rw [hK, hO] at hbad
  rw [hO] at hok hno
  rw [hK, hO]
  obtain ⟨n, hn⟩ : ∃ n, us.length = n := ⟨_, rfl⟩
  have hn' := hid hn
  have hC' := hid hC
  have hMs' := hid hMs
  have hMB' := hid hMB
  rw [hn] at hl hxca hhx ⊢
  have hMl : M.length ≤ 64 := by rw [hMs.1]; exact hp64
  clear hK hO hM hpts hrow hyc hC hMs hMB hn hv0 hok1 hpB hyB hu hc
  go_enter Tryz.func91, Tryz.ntmps91
  go_wp2_with fail
  refine hfi.mono ?_
  rintro e w1 ⟨hE1, a, b, rfl, hab⟩
  obtain ⟨rfl, rfl⟩ := hab trivial
  clear hfi
  have hX1 := hX.ext hE1
  have hxa1 := hxa.mono RV.mono (mk_ext hE1)
  go_wp2_with fail
  go_loop [35] (fun cc => ∃ i : Nat, cc = .int .i64 i ∧ i ≤ n ∧ Hid (∀ q, q < i → ∀ hq : q < us.length, us[q].length = b)) (fun cc => n - (intOf cc).toNat)
  case atStart => exact ⟨0, rfl, Nat.zero_le _, hid fun q hq => by omega⟩
  case round =>
    obtain ⟨i, rfl, hi, hrl⟩ := hrel
    by_cases hlt : i < n
    · have hil : i < us.length := by rw [hn'.out]; exact hlt
      obtain ⟨a1, c1, hX1, hcc1, hcl1, hq1⟩ := hxa1.row i hil
      have k00 := hcc1.out noY w1 (ExtX.refl _) rfl
      obtain ⟨r, hr⟩ : ∃ r, us[i].length = r := ⟨_, rfl⟩
      have hno1 := hid (hno.out i hil)
      have hnx : Hid (r = b → ∀ hq : i < us.length, us[i].length = b) := hid fun h hq => by rw [hr]; exact h
      rw [hr] at k00 hno1
      clear hr hcc1 hq1 hcl1
      by_cases hrc : r = b
      · have d1 : ((r : Int) != (b : Int)) = false := bneF (by omega)
        have hn2 := hid (hnx.out hrc)
        clear hrc
        go_wp2_with (with_reducible refine up_ix1 slRats (by omega) (by assumption) ?_)
        go_round
        case rel => exact ⟨i + 1, by go_num, by omega, hid (upto_succ hrl.out hn2.out)⟩
        case measure => simp [intOf]; omega
      · have d1 : ((r : Int) != (b : Int)) = true := bneT (by omega)
        have hO : Hid (O = false) := hid (hno1.out hrc)
        have hK : Hid (K = 0) := hid (hbad.out hO.out)
        clear hrc
        go_wp2_with (with_reducible refine up_ix1 slRats (by omega) (by assumption) ?_)
        go_ret2
        exact ⟨hE1, by rw [hK.out, hO.out]; rfl⟩
    · have hin : i = n := by omega
      subst hin
      have hO : Hid (O = true) := hid (hok.out fun q hq => by rw [hyc'.out]; exact hrl.out q (by rw [hn'.out] at hq; exact hq) hq)
      have hKv : Hid (K = lexc b (vecs us) (vecs M)) := hid (hval.out hO.out)
      have hul : Hid (∀ q (hq : q < us.length), us[q].length = b) := hid fun q hq => hrl.out q (by rw [hn'.out] at hq; exact hq) hq
      clear hlt
      go_wp2_with fail
      refine (hcen.out _ hE1).mono ?_
      rintro e w2 ⟨hE2, _, rfl, ma, mca, rfl, hmca, hma⟩
      have hX2 := hX1.ext hE2
      have hhm := hma.hd
      have hxa2 := hxa1.mono RV.mono (mk_ext hE2)
      obtain ⟨m, hm⟩ : ∃ m, M.length = m := ⟨_, rfl⟩
      have hm' := hid hm
      rw [hm] at hMl hmca hhm ⊢
      clear hm hcen hval hbad hok hno hrl
      obtain ⟨wo, hwo⟩ : ∃ wo, wo = w2 := ⟨_, rfl⟩
      subst hwo
      go_wp2_with fail
      go_loopw [13, 48] (fun nn cc wr => ∃ j : Nat, cc = .int .i64 j ∧ j ≤ m ∧ nn = .int .i64 (lexN b (vecs us) (vecs M) j : Int) ∧ Ext wo wr) (fun _ cc _ => m - (intOf cc).toNat)
      case atStart => exact ⟨0, rfl, Nat.zero_le _, by rw [lexN_zero]; rfl, ExtX.refl _⟩
      case round =>
        obtain ⟨j, rfl, hj, rfl, hEj⟩ := hrel
        by_cases hlj : j < m
        · have hjM : j < M.length := by rw [hm'.out]; exact hlj
          have hsr := hma.mono RC.mono (mk_ext hEj)
          obtain ⟨a1, c1, hX1, hcc1, hcl1, hq1⟩ := hsr.row j hjM
          have k00 := hcc1.out noY wr (ExtX.refl _) rfl
          have hzl := hid (hMs'.out.2 M[j] (List.getElem_mem _))
          have hzB := hid (hMB'.out M[j] (List.getElem_mem _))
          have hle := lexN_le b (vecs us) (vecs M) j
          have hsu : Hid (∀ t : Bool, lexOk b (vecs us) (vec M[j]) = t → lexN b (vecs us) (vecs M) (j + 1) = lexN b (vecs us) (vecs M) j + (if t then 1 else 0)) := hid fun t hb => by
            have h1 : j < (vecs M).length := by simpa [vecs] using hjM
            rw [lexN_succ h1]
            have h2 : (vecs M)[j] = vec M[j] := by simp [vecs]
            rw [h2, hb]
          obtain ⟨z, hz⟩ : ∃ z, M[j] = z := ⟨_, rfl⟩
          obtain ⟨L, hL⟩ : ∃ L, lexN b (vecs us) (vecs M) j = L := ⟨_, rfl⟩
          have hL' := hid hL
          rw [hz] at k00 hzl hzB hsu hq1 hcl1
          rw [hL] at hsu hle ⊢
          have hz0 : RV (mk X wr) (.slice a1 b c1) z := by
            have := RC.rv (u := .slice a1 b c1) ⟨a1, c1, by rw [hzl.out], hcl1, hq1⟩ (fun q hq => Nat.le_trans (hzB.out q hq) (by omega))
            exact this
          rw [hzl.out] at k00 hcl1
          clear hcc1 hz hL hq1
          go_wp2_with (with_reducible refine up_ix1 slRats (by omega) (by assumption) ?_)
          obtain ⟨wi, hwi⟩ : ∃ wi, wi = wr := ⟨_, rfl⟩
          subst hwi
          go_loopw [16, 54] (fun nn cc wx => ∃ k : Nat, cc = .int .i64 k ∧ k ≤ i ∧ Hid ((nn = .int .i64 0 ∧ zeroTo b (vecs us) (vec z) k) ∨ (nn = .int .i64 1 ∧ lexOk b (vecs us) (vec z) = true) ∨ (nn = .int .i64 (-1) ∧ lexOk b (vecs us) (vec z) = false)) ∧ Ext wi wx) (fun _ cc _ => i - (intOf cc).toNat)
          case atStart => exact ⟨0, rfl, Nat.zero_le _, hid (.inl ⟨rfl, fun q hq => by omega⟩), ExtX.refl _⟩
          case round =>
            obtain ⟨k, rfl, hk, hzt, hEk⟩ := hrel
            clear k00
            have hEx := hEj.trans hEk
            have hXx := hX2.ext hEx
            have hzx := mkx RV.mono hz0 hEk
            by_cases hlk : k < i
            · have hku : k < us.length := by rw [hn'.out]; exact hlk
              have hsu2 := hxa2.mono RV.mono (mk_ext hEx)
              obtain ⟨a3, c3, hX3, hcc3, hcl3, hq3⟩ := hsu2.row k hku
              have k00 := hcc3.out noY wr (ExtX.refl _) rfl
              have hul2 := hid (hul.out k hku)
              rw [hul2.out] at k00
              rcases hzt.out with ⟨rfl, hz0'⟩ | ⟨rfl, hz1⟩ | ⟨rfl, hz1⟩
              · have hkv : k < (vecs us).length := by simpa [vecs] using hku
                have hgv : (vecs us)[k] = vec us[k] := by simp [vecs]
                have hpos := hid (fun h => lexOk_pos (c := b) (v := vec z) hkv hz0' h)
                have hneg := hid (fun h => lexOk_neg (c := b) (v := vec z) hkv hz0' h)
                have hzer : Hid (dot b (vec us[k]) (vec z) = 0 → zeroTo b (vecs us) (vec z) (k + 1)) := hid fun h => zeroTo_succ hz0' fun hi => by rw [hgv]; exact h
                rw [hgv] at hpos hneg
                have hdv := hid (dot_vec (u := us[k]) (z := z) hul2.out)
                have hCk := hC'.out us[k] (List.getElem_mem _)
                have hdb := dot_bounds2 (l := us[k]) (m := z) hCk hzB.out hC1 (by omega) (by
                  rw [hul2.out]
                  have : b * (C + (2 * (B + C) + 1) + 1) ≤ 3 * (C + (2 * (B + C) + 1) + 1) := Nat.mul_le_mul_right _ hc3
                  omega)
                have hdot := rdot23_any X wr (.slice a3 us[k].length c3) (.slice a1 b c1) us[k] z hXx ⟨a3, c3, rfl, hcl3, hq3⟩ hzx (by rw [hul2.out]; omega) (by rw [hzl.out, hul2.out]) hdb.1 hdb.2
                have hdq : Hid (hq (dotL us[k] z) ≤ 68719476736) := hid (hdb.1 _ (Nat.le_refl _))
                rw [← hdv.out] at hpos hneg hzer
                rw [hul2.out] at hdot
                obtain ⟨D, hD⟩ : ∃ D, dotL us[k] z = D := ⟨_, rfl⟩
                rw [hD] at hpos hneg hzer hdot hdq
                have hnext : Hid (∃ g : Int, D.num.sign = g ∧ ((Value.int .i64 g = .int .i64 0 ∧ zeroTo b (vecs us) (vec z) (k + 1)) ∨ (Value.int .i64 g = .int .i64 1 ∧ lexOk b (vecs us) (vec z) = true) ∨ (Value.int .i64 g = .int .i64 (-1) ∧ lexOk b (vecs us) (vec z) = false))) := hid (by
                  rcases sign_cases D with ⟨hs, hsg⟩ | ⟨hs, hsg⟩ | ⟨hs, hsg⟩
                  · exact ⟨_, hsg, .inr (.inl ⟨rfl, hpos.out hs⟩)⟩
                  · exact ⟨_, hsg, .inl ⟨rfl, hzer.out hs⟩⟩
                  · exact ⟨_, hsg, .inr (.inr ⟨rfl, hneg.out hs⟩)⟩)
                clear hcc3 hq3 hcl3 hgv hkv hdb hCk hD hpos hneg hzer hz0' hzt
                go_wp2_with (with_reducible refine up_ix1 slRats (by omega) (by assumption) ?_)
                refine hdot.mono ?_
                rintro e w5 ⟨hE5, u5, rfl, hu5⟩
                go_wp2_with fail
                refine (rqsign X w5 u5 D (hXx.ext hE5) (hu5.qv hdq.out)).mono ?_
                rintro e w6 ⟨hE6, rfl⟩
                obtain ⟨g, hg, hgo⟩ := hnext.out
                have hgo' := hid hgo
                rw [hg]
                have hE9 := hEk.trans (hE5.trans hE6)
                clear k00 hg hgo hnext
                go_wp2_with fail
                go_roundw
                case rel => exact ⟨k + 1, by go_num, by omega, hgo', hE9⟩
                case measure => simp [intOf]; omega
              · clear hcc3 hq3 hcl3 hzt
                have hz1' := hid hz1
                clear hz1
                go_wp2_with (with_reducible refine up_ix1 slRats (by omega) (by assumption) ?_)
                go_roundw
                case rel => exact ⟨k + 1, by go_num, by omega, hid (.inr (.inl ⟨rfl, hz1'.out⟩)), hEk⟩
                case measure => simp [intOf]; omega
              · clear hcc3 hq3 hcl3 hzt
                have hz1' := hid hz1
                clear hz1
                go_wp2_with (with_reducible refine up_ix1 slRats (by omega) (by assumption) ?_)
                go_roundw
                case rel => exact ⟨k + 1, by go_num, by omega, hid (.inr (.inr ⟨rfl, hz1'.out⟩)), hEk⟩
                case measure => simp [intOf]; omega
            · have hki : k = i := by omega
              have hall : Hid (zeroTo b (vecs us) (vec z) k → lexOk b (vecs us) (vec z) = true) := hid fun h => lexOk_all fun q hq hl => h q (by
                have : (vecs us).length = us.length := by simp [vecs]
                have := hn'.out
                omega) hl
              rcases hzt.out with ⟨rfl, hz0'⟩ | ⟨rfl, hz1⟩ | ⟨rfl, hz1⟩
              · have hnx := hid (hsu.out true (hall.out hz0'))
                have hnx2 : Hid (Value.int .i64 ((L + 1 : Nat) : Int) = .int .i64 (lexN b (vecs us) (vecs M) (j + 1) : Int)) := hid (by rw [hnx.out]; rfl)
                clear hzt hz0'
                go_wp2_with fail
                go_roundw
                case rel => exact ⟨j + 1, by go_num, by omega, by rw [← hnx2.out]; go_num, hEx⟩
                case measure => simp [intOf]; omega
              · have hnx := hid (hsu.out true hz1)
                have hnx2 : Hid (Value.int .i64 ((L + 1 : Nat) : Int) = .int .i64 (lexN b (vecs us) (vecs M) (j + 1) : Int)) := hid (by rw [hnx.out]; rfl)
                clear hzt hz1
                go_wp2_with fail
                go_roundw
                case rel => exact ⟨j + 1, by go_num, by omega, by rw [← hnx2.out]; go_num, hEx⟩
                case measure => simp [intOf]; omega
              · have hnx := hid (hsu.out false hz1)
                have hnx2 : Hid (Value.int .i64 (L : Int) = .int .i64 (lexN b (vecs us) (vecs M) (j + 1) : Int)) := hid (by rw [hnx.out]; rfl)
                clear hzt hz1
                go_wp2_with fail
                go_roundw
                case rel => exact ⟨j + 1, by go_num, by omega, hnx2.out, hEx⟩
                case measure => simp [intOf]; omega
        · have hjm : j = m := by omega
          have hfull : Hid (lexN b (vecs us) (vecs M) j = K) := hid (by
            rw [hKv.out, lexN_full (by have := hm'.out; simp [vecs]; omega)])
          go_wp2_with fail
          go_ret2
          exact ⟨hE1.trans (hE2.trans hEj), by rw [hfull.out, hO.out]; rfl⟩
end Go.Proofs.YtjbhcniiioepgaaGreat


namespace Go.Proofs.YtjbhcniiioepgaaGreat
open Go.RowKit Go.Rep Go.Lim Go.Lin

set_option maxRecDepth 100000 in
set_option maxHeartbeats 1600000 in
theorem rhalf_any (X : Nat → Bool) (w : World) (u v x : Value) (p : Mat) (y : List Rat) (most : Int) (us : Mat) (B C : Nat) (hX : HX X w) (hu : MV (mk X w) u p) (hv : RV (mk X w) v y) (hx : MV (mk X w) x us) (hp : p.length ≤ 1000) (hl : us.length ≤ 1000) (hrl : ∀ r ∈ us, r.length ≤ 1000) (hpB : BM B p) (hyB : BR B y) (hC : BM C us) (hB : 1 ≤ B) (hC1 : 1 ≤ C) (hBC : 10 * (B + C) ≤ 68719476000) :
    Calls Tryz.prog 31 #[u, v, .int .i64 most, x] w (BOut w (halfB p y most us)) := by
  have hco := rcount_any X w u v x p y us B C hX hu hv hx hp hl hpB hyB hC hB hC1 hBC
  obtain ⟨va, vca, rfl, hvca, hva⟩ := hv
  obtain ⟨xa, xca, rfl, hxca, hxa⟩ := hx
  obtain ⟨ua, uca, rfl, huca, hua⟩ := hu
  have hhx := hxa.hd
  cases hok : cntOk p y us
  · have hf : Hid (false = halfB p y most us) := hid (by unfold halfB; rw [hok]; rfl)
    have he : Hid (okE (cntOk p y us) = 6) := hid (by rw [hok]; rfl)
    rw [hok] at hco
    rw [show okE false = 6 from rfl] at hco
    clear hok
    go_enter Tryz.func31, Tryz.ntmps31
    go_wp2_with fail
    refine hco.mono ?_
    rintro e w1 ⟨hE1, rfl⟩
    go_wp2_with fail
    go_ret
    exact ⟨hE1, ret_bool hf.out⟩
  rw [hok] at hco
  rw [show okE true = 0 from rfl] at hco
  have hfv : Hid (halfB p y most us = (decide ((cntV p y us : Int) ≤ most) && someNz us)) := hid (by unfold halfB; rw [hok]; rfl)
  obtain ⟨K, hK⟩ : ∃ K, cntV p y us = K := ⟨_, rfl⟩
  rw [hK] at hco hfv
  obtain ⟨HB, hHB⟩ : ∃ b, halfB p y most us = b := ⟨_, rfl⟩
  rw [hHB] at hfv ⊢
  clear hok hK hHB
  by_cases hm : most < (K : Int)
  · have hf : Hid (false = HB) := hid (by rw [hfv.out, decide_eq_false (by omega)]; rfl)
    clear hfv
    go_enter Tryz.func31, Tryz.ntmps31
    go_wp2_with fail
    refine hco.mono ?_
    rintro e w1 ⟨hE1, rfl⟩
    go_wp2_with fail
    go_ret
    exact ⟨hE1, ret_bool hf.out⟩
  have hf : Hid (someNz us = HB) := hid (by rw [hfv.out, decide_eq_true (by omega)]; rfl)
  clear hfv
  obtain ⟨n, hn⟩ : ∃ n, us.length = n := ⟨_, rfl⟩
  have hn' := hid hn
  have hrl' := hid hrl
  have hno : Hid ((∀ q (h : q < us.length), ∀ k (hk : k < us[q].length), us[q][k] = 0) → false = someNz us) := hid fun h => (someNz_no h).symm
  have hye : Hid (∀ q (h : q < us.length) k (hk : k < us[q].length), us[q][k] ≠ 0 → true = someNz us) := hid fun q h k hk hne => (someNz_yes h hk hne).symm
  rw [hn] at hxca hhx hco hl ⊢
  clear hn hrl
  go_enter Tryz.func31, Tryz.ntmps31
  go_wp2_with fail
  refine hco.mono ?_
  rintro e w1 ⟨hE1, rfl⟩
  clear hco
  go_wp2_with fail
  have hX1 := hX.ext hE1
  have hxa1 := hxa.mono RV.mono (mk_ext hE1)
  go_loopw [31] (fun cc wr => ∃ i : Nat, cc = .int .i64 i ∧ i ≤ n ∧ Hid (∀ q (h : q < us.length), q < i → ∀ k (hk : k < us[q].length), us[q][k] = 0) ∧ Ext w1 wr) (fun cc _ => n - (intOf cc).toNat)
  case atStart => exact ⟨0, rfl, Nat.zero_le _, hid (fun q h hq => by omega), ExtX.refl _⟩
  case round =>
    obtain ⟨i, rfl, hi, hz, hE⟩ := hrel
    by_cases hlt : i < n
    · have hil : i < us.length := by rw [hn'.out]; exact hlt
      have hsr := hxa1.mono RV.mono (mk_ext hE)
      obtain ⟨a1, c1, hXa, hc1, hcl1, hq1⟩ := hsr.row i hil
      have k00 := hc1.out noY wr (ExtX.refl _) rfl
      have hye1 := hid (hye.out i hil)
      have hz1 : Hid ((∀ k (hk : k < us[i].length), us[i][k] = 0) → ∀ q (h : q < us.length), q < i + 1 → ∀ k (hk : k < us[q].length), us[q][k] = 0) := hid fun h q hq hqi => by
        by_cases e : q = i
        · subst e; exact h
        · exact hz.out q hq (by omega)
      have hrl1 := hrl'.out us[i] (List.getElem_mem _)
      obtain ⟨r, hr⟩ : ∃ r, us[i] = r := ⟨_, rfl⟩
      have hye1 : Hid (∀ k (hk : k < r.length), r[k] ≠ 0 → true = someNz us) := by subst hr; exact hye1
      have hz1 : Hid ((∀ k (hk : k < r.length), r[k] = 0) → ∀ q (h : q < us.length), q < i + 1 → ∀ k (hk : k < us[q].length), us[q][k] = 0) := by subst hr; exact hz1
      rw [hr] at k00 hcl1 hq1 hrl1
      have hh1 := hq1.hd
      obtain ⟨c, hc⟩ : ∃ c, r.length = c := ⟨_, rfl⟩
      have hc' := hid hc
      rw [hc] at k00 hcl1 hh1 hrl1
      clear hc1 hr hc
      go_wp2_with (with_reducible refine up_ix1 slRats (by omega) (by assumption) ?_)
      obtain ⟨wo, hwo⟩ : ∃ wo, wo = wr := ⟨_, rfl⟩
      subst hwo
      go_loopw [37] (fun cc wx => ∃ j : Nat, cc = .int .i64 j ∧ j ≤ c ∧ Hid (∀ k (hk : k < r.length), k < j → r[k] = 0) ∧ Ext wo wx) (fun cc _ => c - (intOf cc).toNat)
      case atStart => exact ⟨0, rfl, Nat.zero_le _, hid (fun p hp h => by omega), ExtX.refl _⟩
      case round =>
        obtain ⟨j, rfl, hj, hzj, hEj⟩ := hrel
        by_cases hlj : j < c
        · have hjr : j < r.length := by rw [hc'.out]; exact hlj
          have hq2 := hq1.mono QV.mono (mk_ext hEj)
          have hXr := hX1.ext (hE.trans hEj)
          have bx := Bx.new wr #[.bool false, .slice none 0 0, .slice none 0 0] 31
          have hye2 := hid (hye1.out j hjr)
          have hzj2 : Hid (r[j] = 0 → ∀ k (hk : k < r.length), k < j + 1 → r[k] = 0) := hid fun h k hk hkj => by
            by_cases e : k = j
            · subst e; exact h
            · exact hzj.out k hk (by omega)
          clear k00
          go_wp2_with (first | (with_reducible refine up_ixn slRat (by omega) (by assumption) ?_) | ((with_reducible show wpList _ _ _ (⟨_, .load 31 _, _, _, _, _⟩ :: _) _ _); refine st_loadElem stRat j hq2 hjr rfl (by simp) QV.agg ?_; intro u5 hu5; obtain ⟨s5, a5, n5, c5, d5, m5, e5, rfl⟩ := hu5.shape) | ((with_reducible show wpList _ _ _ (⟨_, .store _ _ _, _, _, _, _⟩ :: _) _ _); refine st_storeBox stRat rfl rfl bx rfl rfl (one3 _ _ _ _ _ _ _) ?_; intro w5 r1 r2; have hE5 : Ext wr w5 := ExtX.box ((ExtX.refl wr).alloc _) r2 (Nat.le_refl _); have k10 := r1.cell 0 rfl; have k11 := r1.cell 1 rfl; have k12 := r1.cell 2 rfl; have hX5 := hXr.ext hE5; have hu6 := mkx QV.mono hu5 hE5))
          refine (rqsign X _ _ _ hX5 hu6).mono ?_
          rintro e w7 ⟨hE7, rfl⟩
          have hE9 := hEj.trans (hE5.trans hE7)
          clear k10 k11 k12
          rcases sign_cases r[j] with ⟨hs, hsg⟩ | ⟨hs, hsg⟩ | ⟨hs, hsg⟩
          · have hv := hid (hye2.out (by intro h; rw [h] at hs; exact absurd hs (by grind)))
            rw [hsg]
            clear hs hsg
            go_wp2_with fail
            go_ret
            exact ⟨hE1.trans (hE.trans hE9), ret_bool (hv.out.trans hf.out)⟩
          · have hnx := hid (hzj2.out hs)
            rw [hsg]
            clear hs hsg
            go_wp2_with fail
            go_roundw
            case rel => exact ⟨j + 1, by go_num, by omega, hnx, hE9⟩
            case measure => simp [intOf]; omega
          · have hv := hid (hye2.out (by intro h; rw [h] at hs; exact absurd hs (by grind)))
            rw [hsg]
            clear hs hsg
            go_wp2_with fail
            go_ret
            exact ⟨hE1.trans (hE.trans hE9), ret_bool (hv.out.trans hf.out)⟩
        · have hnext := hid (hz1.out fun k hk => hzj.out k hk (by rw [hc'.out] at hk; omega))
          have hE9 := hE.trans hEj
          clear k00
          go_wp2_with fail
          go_roundw
          case rel => exact ⟨i + 1, by go_num, by omega, hnext, hE9⟩
          case measure => simp [intOf]; omega
    · have hv := hid ((hno.out fun q h => hz.out q h (by rw [hn'.out] at h; omega)).trans hf.out)
      go_wp2_with fail
      go_ret
      exact ⟨hE1.trans hE, ret_bool hv.out⟩
end Go.Proofs.YtjbhcniiioepgaaGreat


namespace Go.Proofs.YtjbhcniiioepgaaGreat
open Go.RowKit Go.Rep Go.Lim

theorem capart_any (X : Nat → Bool) (ao bo : Option Addr) (a b : List Int) (ca cb : Nat) (w : World) (hsa : Sl (IntIn .i64) 1 (mk X w) ao a) (hsb : Sl (IntIn .i64) 1 (mk X w) bo b) (hla : a.length ≤ 1099511627776) (hlb : a.length ≤ b.length)
    (hra : Hid (∀ i (h : i < a.length), 0 ≤ a[i] ∧ a[i] ≤ 2)) (hrb : Hid (∀ i (h : i < b.length), 0 ≤ b[i] ∧ b[i] ≤ 2)) :
    Calls Tryz.prog 142 #[.slice ao a.length ca, .slice bo b.length cb] w fun e w' => w = w' ∧ e = .returned (.bool (apartS a b)) := by
  have hha := hsa.hd
  have hhb := hsb.hd
  go_enter Tryz.func142, Tryz.ntmps142
  go_wp2_with fail
  go_loop [9] (fun c => ∃ i : Nat, c = .int .i64 i ∧ i ≤ a.length ∧ Hid (∀ p, p < i → ((a.getD p 0 + b.getD p 0 == 3) && (a.getD p 0 != 0) && (b.getD p 0 != 0)) = false)) (fun c => a.length - (intOf c).toNat)
  case atStart => exact ⟨0, rfl, Nat.zero_le _, fun p hp => by omega⟩
  case round =>
    obtain ⟨i, rfl, hi, hok⟩ := hrel
    by_cases hlt : i < a.length
    · have hlt2 : i < b.length := by omega
      have c1 := hsa.int i hlt
      have c2 := hsb.int i hlt2
      have e1 := getD_eq hlt
      have e2 := getD_eq hlt2
      have r1 := hra.out i hlt
      have r2 := hrb.out i hlt2
      obtain ⟨x, hx⟩ : ∃ x, a[i] = x := ⟨_, rfl⟩
      obtain ⟨y, hy⟩ : ∃ y, b[i] = y := ⟨_, rfl⟩
      rw [hx] at c1 e1 r1
      rw [hy] at c2 e2 r2
      have e1' := hid e1
      have e2' := hid e2
      obtain ⟨r11, r12⟩ := r1
      obtain ⟨r21, r22⟩ := r2
      clear hx hy e1 e2
      have bad : Hid (((x + y == 3) && (x != 0) && (y != 0)) = true → apartS a b = true) := hid fun h => any_range_true i hlt (by rw [e1'.out, e2'.out]; exact h)
      have good : Hid (((x + y == 3) && (x != 0) && (y != 0)) = false → ∀ p, p < i + 1 → ((a.getD p 0 + b.getD p 0 == 3) && (a.getD p 0 != 0) && (b.getD p 0 != 0)) = false) := hid fun h => upto_succ hok.out (by rw [e1'.out, e2'.out]; exact h)
      by_cases h1 : x + y = 3
      · have b1 : (x + y == 3) = true := beqT h1
        by_cases h2 : x = 0
        · omega
        · have b2 : (x != 0) = true := bneT h2
          by_cases h3 : y = 0
          · omega
          · have b3 : (y != 0) = true := bneT h3
            have hv := hid (bad.out (by rw [b1, b2, b3]; rfl))
            clear h1 h2 h3
            go_wp2_with (with_reducible refine up_ix1 slInt (by omega) (by assumption) ?_)
            go_ret
            exact ⟨rfl, ret_bool hv.out.symm⟩
      · have b1 : (x + y == 3) = false := beqF h1
        have hv := hid (good.out (by rw [b1]; rfl))
        clear h1
        go_wp2_with (with_reducible refine up_ix1 slInt (by omega) (by assumption) ?_)
        go_round
        case rel => exact ⟨i + 1, by go_num, by omega, hv.out⟩
        case measure => simp [intOf]; omega
    · have hv : Hid (apartS a b = false) := hid (any_range_false fun p hp => hok.out p (by omega))
      go_wp2_with fail
      go_ret
      exact ⟨rfl, ret_bool hv.out.symm⟩

/-- The sides of a leaf and true, or false. -/
def ReadOut (X : Nat → Bool) (w : World) (n h : Nat) (x : Leaf) (e : Ending) (w' : World) : Prop :=
  Ext w w' ∧ ((leafOk n h x = false ∧ e = .returned (.tuple #[.slice none 0 0, .bool false])) ∨
    (leafOk n h x = true ∧ ∃ ao cap, e = .returned (.tuple #[.slice ao n cap, .bool true]) ∧ n ≤ cap ∧ Sl (IntIn .i64) 1 (mk X w') ao (sideL n x.1 x.2)))

set_option maxRecDepth 100000 in
set_option maxHeartbeats 800000 in
theorem read_any (X : Nat → Bool) (ao bo : Option Addr) (I O : List Int) (ca cb n h : Nat) (w : World) (hsa : Sl (IntIn .i64) 1 (mk X w) ao I) (hsb : Sl (IntIn .i64) 1 (mk X w) bo O) (hla : I.length ≤ 1099511627776) (hlb : O.length ≤ 1099511627776)
    (hn : n ≤ 64) (hh : h ≤ n) (hX : ∀ k, X k = true → k < w.heap.size) :
    Calls Tryz.prog 141 #[.int .i64 n, .int .i64 h, .agg #[.slice ao I.length ca, .slice bo O.length cb]] w (ReadOut X w n h (I, O)) := by
  have hha := hsa.hd
  have hhb := hsb.hd
  have hE0 : Ext w (w.alloc (.cells #[.slice ao I.length ca, .slice bo O.length cb] 103)) := (ExtX.refl w).alloc _
  have hsa1 := hsa.mono (IntIn.mono _) (mk_ext hE0)
  have hsb1 := hsb.mono (IntIn.mono _) (mk_ext hE0)
  have hX1 : ∀ k, X k = true → k < (w.alloc (.cells #[.slice ao I.length ca, .slice bo O.length cb] 103)).heap.size := fun k hk => Nat.lt_of_lt_of_le (hX k hk) hE0.size
  have hlf : Hid (leafOk n h (I, O) = (ascB I n && ascB O n && decide ((I.length : Int) ≤ h) && decide ((O.length : Int) ≤ n - h) && !meets I O)) := hid rfl
  cases h1 : ascB I n
  · have hv : Hid (leafOk n h (I, O) = false) := hid (by rw [hlf.out, h1]; rfl)
    have h1' := hid h1
    clear h1
    go_enter Tryz.func141, Tryz.ntmps141
    go_wp2_with (first | (go_at_call 174; refine (ascending_any X ao I ca n _ hsa1 hla).mono ?_; rintro e w' ⟨rfl, rfl⟩; rw [h1'.out]))
    go_ret2
    exact ⟨hE0, .inl ⟨hv.out, rfl⟩⟩
  have h1' := hid h1
  cases h2 : ascB O n
  · have hv : Hid (leafOk n h (I, O) = false) := hid (by rw [hlf.out, h1, h2]; rfl)
    have h2' := hid h2
    clear h1 h2
    go_enter Tryz.func141, Tryz.ntmps141
    go_wp2_with fail
    refine (ascending_any X ao I ca n _ hsa1 hla).mono ?_; rintro e w' ⟨rfl, rfl⟩; rw [h1'.out]
    go_wp2_with fail
    refine (ascending_any X bo O cb n _ hsb1 hlb).mono ?_; rintro e w' ⟨rfl, rfl⟩; rw [h2'.out]
    go_wp2_with fail
    go_ret2
    exact ⟨hE0, .inl ⟨hv.out, rfl⟩⟩
  have h2' := hid h2
  by_cases h3 : h < I.length
  · have hv : Hid (leafOk n h (I, O) = false) := hid (by rw [hlf.out, h1, h2, decide_eq_false (by omega)]; rfl)
    clear h1 h2
    go_enter Tryz.func141, Tryz.ntmps141
    go_wp2_with fail
    refine (ascending_any X ao I ca n _ hsa1 hla).mono ?_; rintro e w' ⟨rfl, rfl⟩; rw [h1'.out]
    go_wp2_with fail
    refine (ascending_any X bo O cb n _ hsb1 hlb).mono ?_; rintro e w' ⟨rfl, rfl⟩; rw [h2'.out]
    go_wp2_with fail
    go_ret2
    exact ⟨hE0, .inl ⟨hv.out, rfl⟩⟩
  by_cases h4 : n < O.length + h
  · have hv : Hid (leafOk n h (I, O) = false) := hid (by rw [hlf.out, h1, h2, decide_eq_true (by omega), decide_eq_false (by omega)]; rfl)
    clear h1 h2
    go_enter Tryz.func141, Tryz.ntmps141
    go_wp2_with fail
    refine (ascending_any X ao I ca n _ hsa1 hla).mono ?_; rintro e w' ⟨rfl, rfl⟩; rw [h1'.out]
    go_wp2_with fail
    refine (ascending_any X bo O cb n _ hsb1 hlb).mono ?_; rintro e w' ⟨rfl, rfl⟩; rw [h2'.out]
    go_wp2_with fail
    go_ret2
    exact ⟨hE0, .inl ⟨hv.out, rfl⟩⟩
  have hlf2 : Hid (leafOk n h (I, O) = !meets I O) := hid (by rw [hlf.out, h1, h2, decide_eq_true (by omega), decide_eq_true (by omega)]; rfl)
  clear hlf
  go_enter Tryz.func141, Tryz.ntmps141
  have cl1 := h1
  have cl2 := h2
  have h1 := hid cl1
  have h2 := hid cl2
  clear cl1 cl2
  go_wp2_with fail
  refine (ascending_any X ao I ca n _ hsa1 hla).mono ?_; rintro e w' ⟨rfl, rfl⟩; rw [h1'.out]
  go_wp2_with fail
  refine (ascending_any X bo O cb n _ hsb1 hlb).mono ?_; rintro e w' ⟨rfl, rfl⟩; rw [h2'.out]
  go_wp2_with (at_make; refine st_make slInt (IntIn.elem .i64) 0 (fun _ => rfl) X hX1 _ (Nat.le_refl _) n rfl rfl rfl (by omega) (by omega) ?_; intro oo w1 hO1 hE1; have hc1 : w1.cell? ⟨w.heap.size, 0, none⟩ = some (.slice ao I.length ca) := hE1.cell (cell_new (w := w) (cs := #[.slice ao I.length ca, .slice bo O.length cb]) (e := 103) 0 rfl); have hc2 : w1.cell? ⟨w.heap.size, 1, none⟩ = some (.slice bo O.length cb) := hE1.cell (cell_new (w := w) (cs := #[.slice ao I.length ca, .slice bo O.length cb]) (e := 103) 1 rfl))
  have hho : Hd oo n := by have := hO1.hd; simpa using this
  rw [← sideL_zero] at hO1
  have hE01 : Ext w w1 := hE0.trans hE1
  have hB : w.heap.size ≤ (w.alloc (.cells #[.slice ao I.length ca, .slice bo O.length cb] 103)).heap.size := hE0.size
  have hBl : w.heap.size < (w.alloc (.cells #[.slice ao I.length ca, .slice bo O.length cb] 103)).heap.size := by simp
  generalize (w.alloc (.cells #[.slice ao I.length ca, .slice bo O.length cb] 103)).heap.size = B at hO1 hB hBl
  clear hsa1 hsb1 hX1 hE0 hE1 hc1
  go_loopw [46] (fun c wr => ∃ k : Nat, c = .int .i64 k ∧ k ≤ I.length ∧ OL (IntIn .i64) 1 X B 3 wr oo n (sideL n (I.take k) []) ∧ wr.cell? ⟨w.heap.size, 1, none⟩ = some (.slice bo O.length cb) ∧ Ext w wr) (fun c _ => I.length - (intOf c).toNat)
  case atStart => exact ⟨0, rfl, Nat.zero_le _, hO1, hc2, hE01⟩
  case round =>
    clear hO1 hc2 hE01
    obtain ⟨k, rfl, hk, hO, hcO, hE⟩ := hrel
    by_cases hlt : k < I.length
    · have c1 := (hsa.mono (IntIn.mono _) (mk_ext hE)).int k hlt
      obtain ⟨hx0, hxn⟩ := ascB_get h1'.out k hlt
      obtain ⟨x, hx⟩ := Int.eq_ofNat_of_zero_le hx0
      rw [hx] at c1 hxn
      have hst := hid (sideL_in (n := n) hlt hx)
      clear hx hx0
      have hxl : x < (sideL n (I.take k) []).length := by rw [sideL_length]; omega
      go_wp2_with (first | (with_reducible refine up_ix1 slInt (by omega) (by assumption) ?_) | ((with_reducible show wpList _ _ _ (⟨_, .store _ _ _, _, _, _, _⟩ :: _) _ _); refine st_storeInt tyInt x 1 rfl (by omega) hO hxl rfl rfl ?_; intro w3 hO3 hE3))
      rw [hst.out] at hO3
      have hcO3 := hE3.cellY hcO (hO.ob_lt hBl)
      go_wp2_with fail
      go_roundw
      case rel => exact ⟨k + 1, by go_num, by omega, hO3, hcO3, hE.own hO hB hE3⟩
      case measure => simp [intOf]; omega
    · have hke : k = I.length := by omega
      subst hke
      rw [List.take_length] at hO
      have hO2 : OL (IntIn .i64) 1 X B 3 wr oo n (sideL n I (O.take 0)) := hO
      go_wp2_with fail
      go_loopw [57] (fun c wr => ∃ k : Nat, c = .int .i64 k ∧ k ≤ O.length ∧ Hid (∀ q, q < k → ∀ hq : q < O.length, ¬ O[q] ∈ I) ∧ OL (IntIn .i64) 1 X B 3 wr oo n (sideL n I (O.take k)) ∧ Ext w wr) (fun c _ => O.length - (intOf c).toNat)
      case atStart => exact ⟨0, rfl, Nat.zero_le _, fun q hq => by omega, hO2, hE⟩
      case round =>
        clear hO hO2 hE hcO
        obtain ⟨k, rfl, hk, hok, hO, hE⟩ := hrel
        by_cases hlt : k < O.length
        · have c1 := (hsb.mono (IntIn.mono _) (mk_ext hE)).int k hlt
          obtain ⟨hx0, hxn⟩ := ascB_get h2'.out k hlt
          obtain ⟨x, hx⟩ := Int.eq_ofNat_of_zero_le hx0
          rw [hx] at c1 hxn
          have hxl : x < (sideL n I (O.take k)).length := by rw [sideL_length]; omega
          have c2 := (hO.sl (IntIn.elem _)).int x hxl
          rw [sideL_get] at c2
          by_cases hm : (x : Int) ∈ I
          · rw [if_pos hm] at c2
            have hv : Hid (leafOk n h (I, O) = false) := hid (by rw [hlf2.out, meets_iff.2 ⟨_, hm, by rw [← hx]; exact List.getElem_mem hlt⟩]; rfl)
            clear hx hm hx0
            go_wp2_with (with_reducible refine up_ix1 slInt (by omega) (by assumption) ?_)
            go_ret2
            exact ⟨hE, .inl ⟨hv.out, rfl⟩⟩
          · rw [if_neg hm] at c2
            have hnt : ¬ (x : Int) ∈ O.take k := by
              intro hmem
              obtain ⟨j, hj, hje⟩ := List.getElem_of_mem hmem
              simp at hj
              have := ascB_lt h2'.out j k (by omega) hlt
              rw [List.getElem_take] at hje
              omega
            rw [if_neg hnt] at c2
            have hst := hid (sideL_out (n := n) (I := I) hlt hx hm)
            have hok' := hid (upto_succ hok.out (fun hq => by rw [hx]; exact hm))
            clear hx hx0 hm hnt
            go_wp2_with (first | (with_reducible refine up_ix1 slInt (by omega) (by assumption) ?_) | ((with_reducible show wpList _ _ _ (⟨_, .store _ _ _, _, _, _, _⟩ :: _) _ _); refine st_storeInt tyInt x 2 rfl (by omega) hO hxl rfl rfl ?_; intro w3 hO3 hE3))
            rw [hst.out] at hO3
            go_wp2_with fail
            go_roundw
            case rel => exact ⟨k + 1, by go_num, by omega, hok'.out, hO3, hE.own hO hB hE3⟩
            case measure => simp [intOf]; omega
        · have hke : k = O.length := by omega
          subst hke
          rw [List.take_length] at hO
          have hv : Hid (leafOk n h (I, O) = true) := hid (by
            rw [hlf2.out]
            cases hm : meets I O
            · rfl
            · obtain ⟨v, hv1, hv2⟩ := meets_iff.1 hm
              obtain ⟨j, hj, rfl⟩ := List.getElem_of_mem hv2
              exact absurd hv1 (hok.out j hj hj))
          go_wp2_with fail
          go_ret2
          exact ⟨hE, .inr ⟨hv.out, oo, n, rfl, Nat.le_refl _, hO.sl (IntIn.elem _)⟩⟩
end Go.Proofs.YtjbhcniiioepgaaGreat


namespace Go.Proofs.YtjbhcniiioepgaaGreat
open Go.RowKit Go.Rep Go.Lim

theorem slLeaf : SliceT Tryz.prog 75 103 2 48 (.agg #[.slice none 0 0, .slice none 0 0]) := ⟨Tryz.underlying75, by kernel_rfl⟩
theorem slInts : SliceT Tryz.prog 81 22 1 24 (.slice none 0 0) := ⟨Tryz.underlying81, by kernel_rfl⟩

theorem stLeaf : StructT Tryz.prog 103 2 := by
  have h : (Tryz.prog.info? 103).map (fun i => (i.zero, i.size, i.bytes)) = some (some (.agg #[.slice none 0 0, .slice none 0 0]), 2, 48) := by kernel_rfl
  obtain ⟨ti, h1, _, h2, _⟩ := info_parts h
  exact ⟨_, ti, Tryz.underlying103, h1, h2⟩

/-- A bool comes back. -/
def BoolOut (w : World) (b : Bool) (e : Ending) (w' : World) : Prop := Ext w w' ∧ e = .returned (.bool b)

theorem choose_int (X : Nat → Bool) (m1 m2 : Int) (n k : Nat) (w : World) (h1 : m1 = (n : Int)) (h2 : m2 = (k : Int)) (hk : k ≤ n) (hn : n ≤ 64) (hX : ∀ k, X k = true → k < w.heap.size) :
    Calls Tryz.prog 144 #[.int .i64 m1, .int .i64 m2] w (NatOut X w (ch n k)) := by
  subst h1; subst h2; exact choose_any X n k w hk hn hX

set_option maxRecDepth 100000 in
set_option maxHeartbeats 1600000 in
theorem cover_any (X : Nat → Bool) (lo : Option Addr) (L : List Leaf) (cl : Nat) (n h : Int) (w : World) (hs : Sl LeafR 2 (mk X w) lo L) (hL : L.length ≤ 1099511627776) (hLl : Hid (∀ x ∈ L, x.1.length ≤ 1099511627776 ∧ x.2.length ≤ 1099511627776)) (hX : ∀ k, X k = true → k < w.heap.size) :
    Calls Tryz.prog 92 #[.int .i64 n, .int .i64 h, .slice lo L.length cl] w (BoolOut w (coverB n h L)) := by
  have hhl := hs.hd
  have hdef : Hid (coverB n h L = (decide (1 ≤ n) && decide (n ≤ 64) && decide (0 ≤ h) && decide (h ≤ n) && decide (L.length ≤ 4096) && (List.range L.length).all (goodAt n h L) && decide (sumL n.toNat h.toNat L = ch n.toNat h.toNat))) := hid rfl
  by_cases hn1 : n < 1
  · have hv : Hid (coverB n h L = false) := hid (by rw [hdef.out, decide_eq_false (by omega)]; rfl)
    go_enter Tryz.func92, Tryz.ntmps92
    go_wp2_with fail
    go_ret
    exact ⟨ExtX.refl _, ret_bool hv.out.symm⟩
  by_cases hn2 : 64 < n
  · have hv : Hid (coverB n h L = false) := hid (by rw [hdef.out, decide_eq_true (by omega), decide_eq_false (by omega)]; rfl)
    go_enter Tryz.func92, Tryz.ntmps92
    go_wp2_with fail
    go_ret
    exact ⟨ExtX.refl _, ret_bool hv.out.symm⟩
  by_cases hh1 : h < 0
  · have hv : Hid (coverB n h L = false) := hid (by rw [hdef.out, decide_eq_false (show ¬ 0 ≤ h by omega)]; simp)
    go_enter Tryz.func92, Tryz.ntmps92
    go_wp2_with fail
    go_ret
    exact ⟨ExtX.refl _, ret_bool hv.out.symm⟩
  by_cases hh2 : n < h
  · have hv : Hid (coverB n h L = false) := hid (by rw [hdef.out, decide_eq_false (show ¬ h ≤ n by omega)]; simp)
    go_enter Tryz.func92, Tryz.ntmps92
    go_wp2_with fail
    go_ret
    exact ⟨ExtX.refl _, ret_bool hv.out.symm⟩
  by_cases hl4 : 4096 < L.length
  · have hv : Hid (coverB n h L = false) := hid (by rw [hdef.out, decide_eq_false (show ¬ L.length ≤ 4096 by omega)]; simp)
    go_enter Tryz.func92, Tryz.ntmps92
    go_wp2_with fail
    go_ret
    exact ⟨ExtX.refl _, ret_bool hv.out.symm⟩
  obtain ⟨N, rfl⟩ := Int.eq_ofNat_of_zero_le (show 0 ≤ n by omega)
  obtain ⟨H, rfl⟩ := Int.eq_ofNat_of_zero_le (show 0 ≤ h by omega)
  have hN : N ≤ 64 := by omega
  have hHN : H ≤ N := by omega
  have hdef2 : Hid (coverB N H L = ((List.range L.length).all (goodAt N H L) && decide (sumL N H L = ch N H))) := hid (by
    rw [hdef.out, decide_eq_true (by omega), decide_eq_true (by omega), decide_eq_true (by omega), decide_eq_true (by omega), decide_eq_true (by omega)]; rfl)
  clear hdef
  go_enter Tryz.func92, Tryz.ntmps92
  go_wp2_with fail
  go_loopw [7, 8, 37] (fun s7 s8 c wr => ∃ (k : Nat) (oo : Option Addr) (co : Nat) (so : Option Addr) (cs : Nat) (sl : List Nat), c = .int .i64 k ∧ s7 = .slice oo k co ∧ s8 = .slice so sl.length cs ∧ k ≤ L.length ∧
      OL (SlV (IntIn .i64) 1) 1 X w.heap.size 22 wr oo co (sidesL N (L.take k)) ∧ sl.length ≤ cs ∧ Canon sl (sumL N H (L.take k)) ∧ Sl (NatIn .u32) 1 (mk (un X oo) wr) so sl ∧ Hid (∀ j, j < k → goodAt N H L j = true) ∧ Ext w wr) (fun _ _ c _ => L.length - (intOf c).toNat)
  case atStart => exact ⟨0, none, 0, none, 0, [], rfl, rfl, rfl, Nat.zero_le _, OL.nil _ _ _ _ _ _, by simp, Canon.nil, Sl.nil _ _ _ _, fun j hj => by omega, ExtX.refl _⟩
  case round =>
    obtain ⟨k, oo, co, so, cs, sl, rfl, rfl, rfl, hk, hO, hsc, hcan, hss, hgood, hE⟩ := hrel
    have hXr : ∀ k, X k = true → k < wr.heap.size := fun k hk => Nat.lt_of_lt_of_le (hX k hk) hE.size
    have hXu := hO.unX hXr
    have hol : Hid ((sidesL N (L.take k)).length = k) := hid (by rw [sidesL_length]; simp; omega)
    have hho : Hd oo k := hol.out ▸ hO.hd
    by_cases hlt : k < L.length
    · have hs1 := hs.old LeafR.mono hE (oo := oo) (fun j hj => hO.ob_lt hj)
      have hlen := hLl.out L[k] (List.getElem_mem hlt)
      obtain ⟨I, O, hx⟩ : ∃ I O, L[k] = (I, O) := ⟨_, _, rfl⟩
      rw [hx] at hlen
      obtain ⟨hlI, hlO⟩ := hlen
      simp only at hlI hlO
      have hx' := hid hx
      clear hx
      go_wp2_with (first | (first | (with_reducible refine up_ix1 slInt (by omega) (by assumption) ?_) | (with_reducible refine up_ixn slLeaf (by omega) (by assumption) ?_) | (with_reducible refine up_ix1 slInts (by omega) (by assumption) ?_)) | ((with_reducible show wpList _ _ _ (⟨_, .load _ _, _, _, _, _⟩ :: _) _ _); refine st_loadElem stLeaf k hs1 hlt rfl (by omega) LeafR.agg ?_; rintro u hu; rw [hx'.out] at hu; obtain ⟨a1, c1, a2, c2, rfl, hc1, hc2, hs2, hs3⟩ := hu))
      have hEn : Ext wr (wr.alloc (.cells #[.slice a1 I.length c1, .slice a2 O.length c2] 103)) := (ExtX.refl wr).alloc _
      have k1 : (wr.alloc (.cells #[.slice a1 I.length c1, .slice a2 O.length c2] 103)).cell? ⟨wr.heap.size, 0, none⟩ = some (.slice a1 I.length c1) := cell_new 0 rfl
      have k2 : (wr.alloc (.cells #[.slice a1 I.length c1, .slice a2 O.length c2] 103)).cell? ⟨wr.heap.size, 1, none⟩ = some (.slice a2 O.length c2) := cell_new 1 rfl
      generalize wr.alloc (.cells #[.slice a1 I.length c1, .slice a2 O.length c2] 103) = W at hEn k1 k2 ⊢
      have hXW : ∀ k, un X oo k = true → k < W.heap.size := fun k hk => Nat.lt_of_lt_of_le (hXu k hk) hEn.size
      refine (read_any (un X oo) a1 a2 I O c1 c2 N H W (hs2.mono (IntIn.mono _) (mk_ext hEn)) (hs3.mono (IntIn.mono _) (mk_ext hEn)) hlI hlO hN hHN hXW).mono ?_
      rintro e w2 ⟨hE2, (⟨hbad, rfl⟩ | ⟨hokl, sd, cd, rfl, hcd, hsd⟩)⟩
      · have hv : Hid (coverB N H L = false) := hid (by rw [hdef2.out, all_range_false k hlt (goodAt_bad hlt hx'.out hbad)]; rfl)
        have hbad' := hid hbad
        clear hbad
        go_wp2_with fail
        go_ret
        exact ⟨(hE.trans hEn).trans hE2, ret_bool hv.out.symm⟩
      · have hokl' := hid hokl
        clear hokl
        have hE02 : Ext wr w2 := hEn.trans hE2
        have hO2 := hO.ext0 (SlV.elem (IntIn.elem .i64)) hE02
        have k1' := hE2.cell k1
        have k2' := hE2.cell k2
        have hss2 := hss.mono (NatIn.mono _) (mk_ext hE02)
        have hEw2 : Ext w w2 := hE.trans hE02
        have hobw : ob oo wr.heap.size = false := hO.ob_ge (Nat.le_refl _)
        have hXw2 : ∀ k, X k = true → k < w2.heap.size := fun k hk => Nat.lt_of_lt_of_le (hX k hk) hEw2.size
        clear hO hss hs1 hs2 hs3 hE hEn hE2 k1 k2 hE02
        go_wp2_with fail
        go_loop [52] (fun c => ∃ j : Nat, c = .int .i64 j ∧ j ≤ k ∧ Hid (∀ q, q < j → ∀ hq : q < L.length, apartL (I, O) L[q] = true)) (fun c => k - (intOf c).toNat)
        case atStart => exact ⟨0, rfl, Nat.zero_le _, fun q hq => by omega⟩
        case round =>
          obtain ⟨j, rfl, hj, hap⟩ := hrel
          by_cases hjk : j < k
          · have hjl : j < (sidesL N (L.take k)).length := by rw [hol.out]; exact hjk
            obtain ⟨a3, c3, f3, h3, s3⟩ := (hO2.sl (SlV.elem (IntIn.elem .i64))).slice j hjl
            have hjL : j < L.length := by omega
            have hgj := hid (goodAt_ok hjL (hgood.out j hjk))
            rw [sidesL_get, List.getElem_take] at f3 h3 s3
            have hap2 := hid (apartS_sides (n := N) (h := H) (x := (I, O)) (y := L[j]) hokl'.out hgj.out)
            obtain ⟨y, hy⟩ : ∃ y, L[j] = y := ⟨_, rfl⟩
            rw [hy] at f3 h3 s3
            have hy' := hid hy
            clear hy
            rw [sideL_length] at f3 h3
            have hsd2 := hsd.unX (IntIn.mono _)
            have hg0 := hid (sideL_range N I O)
            have hg1 := hid (sideL_range N y.1 y.2)
            cases hb : apartL (I, O) y
            · have hv : Hid (coverB N H L = false) := hid (by rw [hdef2.out, all_range_false k hlt (goodAt_not hlt hx'.out hjk (by rw [hy'.out]; exact hb))]; rfl)
              have hb' := hid hb
              clear hb
              go_wp2_with (first | (with_reducible refine up_ix1 slInt (by omega) (by assumption) ?_) | (with_reducible refine up_ixn slLeaf (by omega) (by assumption) ?_) | (with_reducible refine up_ix1 slInts (by omega) (by assumption) ?_))
              have hca := capart_any X sd a3 (sideL N I O) (sideL N y.1 y.2) cd c3 w2 hsd2 s3 (by rw [sideL_length]; omega) (by rw [sideL_length, sideL_length]; exact Nat.le_refl _) hg0 hg1
              rw [sideL_length, sideL_length] at hca
              refine hca.mono ?_
              rintro e w' ⟨rfl, rfl⟩
              have hval := hap2.out
              rw [hy'.out, hb'.out] at hval
              rw [hval]
              clear hca hval
              go_wp2_with fail
              go_ret
              exact ⟨hEw2, ret_bool hv.out.symm⟩
            · have hb' := hid hb
              clear hb
              go_wp2_with (first | (with_reducible refine up_ix1 slInt (by omega) (by assumption) ?_) | (with_reducible refine up_ixn slLeaf (by omega) (by assumption) ?_) | (with_reducible refine up_ix1 slInts (by omega) (by assumption) ?_))
              have hca := capart_any X sd a3 (sideL N I O) (sideL N y.1 y.2) cd c3 w2 hsd2 s3 (by rw [sideL_length]; omega) (by rw [sideL_length, sideL_length]; exact Nat.le_refl _) hg0 hg1
              rw [sideL_length, sideL_length] at hca
              refine hca.mono ?_
              rintro e w' ⟨rfl, rfl⟩
              have hval := hap2.out
              rw [hy'.out, hb'.out] at hval
              rw [hval]
              clear hca hval
              go_wp2_with fail
              go_round
              case rel => exact ⟨j + 1, by go_num, by omega, upto_succ hap.out (fun hq => by rw [hy'.out]; exact hb'.out)⟩
              case measure => simp [intOf]; omega
          · have hjk' : j = k := by omega
            subst hjk'
            have hgk := hid (goodAt_yes (N := (N : Int)) (H := (H : Int)) hlt hx'.out hokl'.out fun q hq => hap.out q hq (by omega))
            obtain ⟨hI1, hO1, hI2, hO3, hmt⟩ := leafOk_parts hokl'.out
            clear hI1 hO1 hmt
            have hst1 := hid (sidesL_take N L j hlt)
            have hst2 := hid (sumL_take N H L j hlt)
            go_wp2_with (at_builtin; refine st_append1n (l := sidesL N (L.take j)) slInts rfl (SlV.elem (IntIn.elem .i64)) hEw2.size hXw2 j hol.out rfl rfl hO2 (.slice sd N cd) (sideL N I O) rfl ⟨sd, cd, by rw [sideL_length], by rw [sideL_length]; exact hcd, hsd⟩ (by omega) (by omega) ?_; intro oo4 co4 w4 hO4 hE4 hoo4; have k14 := hE4.cellY k1' hobw; have k24 := hE4.cellY k2' hobw)
            have hEw4 := hEw2.own hO2 (Nat.le_refl _) hE4
            have hss4 := hss2.unstep (NatIn.mono _) hE4 hoo4
            have hX4 := hO4.unX (fun k hk => Nat.lt_of_lt_of_le (hXw2 k hk) hE4.size)
            refine (choose_int (un X oo4) _ _ (N - I.length - O.length) (H - I.length) w4 (by omega) (by omega) (by omega) (by omega) hX4).mono ?_
            rintro e w5 ⟨hE5, a5, c5, l5, rfl, hc5, hcan5, hs5⟩
            have hss5 := hss4.mono (NatIn.mono _) (mk_ext hE5)
            have hO5 := hO4.ext0 (SlV.elem (IntIn.elem .i64)) hE5
            have hX5 := hO5.unX (fun k hk => Nat.lt_of_lt_of_le (hXw2 k hk) (Nat.le_trans hE4.size hE5.size))
            have hls := lg_sumL (N := N) (H := H) hN (L.take j) (by simp; omega)
            have hlc := lg_ch (n := N - I.length - O.length) (k := H - I.length) (by omega)
            rw [← hcan.len] at hls
            rw [← hcan5.len] at hlc
            go_wp2_with fail
            refine (add_any (un X oo4) so a5 sl l5 cs c5 w5 hss5 hs5 hcan.1 hcan5.1 (by omega) (by omega) hsc hc5 hX5 _ _ hcan.val hcan5.val).mono ?_
            rintro e w6 ⟨hE6, a6, c6, l6, rfl, hc6, hcan6, hs6⟩
            have hO6 := hO5.ext0 (SlV.elem (IntIn.elem .i64)) hE6
            have hL1 : Hid (L[j].1 = I ∧ L[j].2 = O) := hid (by rw [hx'.out]; exact ⟨rfl, rfl⟩)
            rw [← hL1.out.1, ← hL1.out.2, ← hst1.out] at hO6
            have hcan6' : Canon l6 (sumL N H (L.take (j + 1))) := by
              rw [hst2.out, hL1.out.1, hL1.out.2]; exact hcan6
            have hgood' := hid (upto_succ hgood.out hgk.out)
            go_wp2_with fail
            go_roundw
            case rel => exact ⟨j + 1, oo4, co4, a6, c6, l6, by go_num, rfl, rfl, by omega, hO6, hc6, hcan6', hs6, hgood'.out, (hEw4.trans hE5).trans hE6⟩
            case measure => simp [intOf]; omega
    · have hke : k = L.length := by omega
      subst hke
      rw [List.take_length] at hcan
      have hall := hid (all_range_true hgood.out)
      have hls := lg_sumL (N := N) (H := H) hN L (by omega)
      rw [← hcan.len] at hls
      have hss0 := hss.unX (NatIn.mono _)
      go_wp2_with fail
      refine (choose_any X N H wr hHN hN hXr).mono ?_
      rintro e w5 ⟨hE5, a5, c5, l5, rfl, hc5, hcan5, hs5⟩
      have hlc := lg_ch (n := N) (k := H) (by omega)
      rw [← hcan5.len] at hlc
      go_wp2_with fail
      refine (compare_any X so a5 sl l5 cs c5 w5 (hss0.mono (NatIn.mono _) (mk_ext hE5)) hs5 hcan.1 hcan5.1 (by omega) (by omega) hsc hc5 _ _ hcan.val hcan5.val).mono ?_
      rintro e w6 ⟨hE6, rfl⟩
      have hv : Hid ((cmpN (sumL N H L) (ch N H) == 0) = coverB N H L) := hid (by
        rw [hdef2.out, hall.out, Bool.true_and, Bool.eq_iff_iff]
        simp [cmpN_eq])
      generalize cmpN (sumL N H L) (ch N H) = c at hv ⊢
      go_wp2_with fail
      go_ret
      exact ⟨(hE.trans hE5).trans hE6, ret_bool hv.out⟩
end Go.Proofs.YtjbhcniiioepgaaGreat


namespace Go.Proofs.YtjbhcniiioepgaaGreat
open Go.RowKit Go.Rep Go.Lim

end Go.Proofs.YtjbhcniiioepgaaGreat


namespace Go.Proofs.YtjbhcniiioepgaaGreat
open Go.RowKit Go.Rep Go.Lim

theorem two_leaves (X : Nat → Bool) (w : World) (I1 O1 I2 O2 : List Int) (a1 a2 a3 a4 : Option Addr) (c1 c2 c3 c4 n1 n2 n3 n4 : Nat) (e : TypeId) (hX : ∀ k, X k = true → k < w.heap.size) (hn1 : n1 = I1.length) (hn2 : n2 = O1.length) (hn3 : n3 = I2.length) (hn4 : n4 = O2.length) (h1 : I1.length ≤ c1) (h2 : O1.length ≤ c2) (h3 : I2.length ≤ c3) (h4 : O2.length ≤ c4)
    (s1 : Sl (IntIn .i64) 1 (mk X w) a1 I1) (s2 : Sl (IntIn .i64) 1 (mk X w) a2 O1) (s3 : Sl (IntIn .i64) 1 (mk X w) a3 I2) (s4 : Sl (IntIn .i64) 1 (mk X w) a4 O2) :
    OL LeafR 2 X w.heap.size e (w.alloc (.cells #[.slice a1 n1 c1, .slice a2 n2 c2, .slice a3 n3 c3, .slice a4 n4 c4] e)) (some ⟨w.heap.size, 0, none⟩) 2 [(I1, O1), (I2, O2)] := by
  subst hn1; subst hn2; subst hn3; subst hn4
  exact OL.lit LeafR.elem hX (Nat.le_refl _) [.agg #[.slice a1 I1.length c1, .slice a2 O1.length c2], .agg #[.slice a3 I2.length c3, .slice a4 O2.length c4]] [(I1, O1), (I2, O2)] _ (by simp [cellsL, Value.cells]) rfl
    (fun i hi _ => by match i, hi with
                      | 0, _ => exact ⟨a1, c1, a2, c2, rfl, h1, h2, s1, s2⟩
                      | 1, _ => exact ⟨a3, c3, a4, c4, rfl, h3, h4, s3, s4⟩) (by simp)

theorem cov1 : Hid (coverB 2 1 [([0], []), ([], [0])] = true) := hid (by decide)
theorem cov2 : Hid (coverB 2 1 [([0], []), ([1], [0])] = true) := hid (by decide)
theorem cov3 : Hid (coverB 2 1 [([0], []), ([1], [])] = false) := hid (by decide)

theorem hnoX (w : World) : ∀ k, noY k = true → k < w.heap.size := fun k hk => by simp [noY] at hk
theorem lits1 (w : World) (x : Int) (t : TypeId) : ∃ W, w.alloc (.cells #[.int .i64 x] t) = W ∧ Sl (IntIn .i64) 1 (mk noY W) (some ⟨w.heap.size, 0, none⟩) [x] ∧ W.heap.size = w.heap.size + 1 ∧ Ext w W :=
  ⟨_, rfl, (lit_sl noY w [x] t _ rfl (hnoX w) (by simp)).sl (IntIn.elem _), by simp, (ExtX.refl _).alloc _⟩

theorem awake_any (w : World) : Calls Tryz.prog 32 #[] w (BoolOut w true) := by
  go_enter Tryz.func32, Tryz.ntmps32
  go_wp2_with fail
  obtain ⟨w1, e1, s1, z1, x1⟩ := lits1 w 0 3
  rw [e1]
  obtain ⟨w2, e2, s2, z2, x2⟩ := lits1 w1 0 3
  rw [e2]
  have c1 := two_leaves noY w2 [0] [] [] [0] (some ⟨w.heap.size, 0, none⟩) none none (some ⟨w.heap.size + 1, 0, none⟩) 1 0 0 1 1 0 0 1 103 (hnoX _) rfl rfl rfl rfl (by simp) (by simp) (by simp) (by simp) (s1.mono (IntIn.mono _) (mk_ext x2)) (Sl.nil _ _ _ _) (Sl.nil _ _ _ _) (z1 ▸ s2)
  have hE : Ext w w2 := x1.trans x2
  have c2 := c1.sl LeafR.elem
  rw [show w2.heap.size = w.heap.size + 1 + 1 by omega] at c2
  have hE3 := hE.alloc (.cells #[.slice (some ⟨w.heap.size, 0, none⟩) 1 1, .slice none 0 0, .slice none 0 0, .slice (some ⟨w.heap.size + 1, 0, none⟩) 1 1] 103)
  refine (cover_any noY _ _ 2 2 1 _ c2 (by simp) (hid (by simp)) (hnoX _)).mono ?_
  rw [cov1.out]
  rintro e w3 ⟨hE4, rfl⟩
  have hE5 := hE3.trans hE4
  clear c1 c2 s1 s2 z1 z2 x1 x2 hE hE3 hE4
  clear e1 e2
  go_wp2_with fail
  obtain ⟨w4, e1, s1, z1, x1⟩ := lits1 w3 0 3
  rw [e1]
  obtain ⟨w5, e2, s2, z2, x2⟩ := lits1 w4 1 3
  rw [e2]
  obtain ⟨w6, e3, s3, z3, x3⟩ := lits1 w5 0 3
  rw [e3]
  have c1 := two_leaves noY w6 [0] [] [1] [0] (some ⟨w3.heap.size, 0, none⟩) none (some ⟨w3.heap.size + 1, 0, none⟩) (some ⟨w3.heap.size + 1 + 1, 0, none⟩) 1 0 1 1 1 0 1 1 103 (hnoX _) rfl rfl rfl rfl (by simp) (by simp) (by simp) (by simp) (s1.mono (IntIn.mono _) (mk_ext (x2.trans x3))) (Sl.nil _ _ _ _) ((z1 ▸ s2).mono (IntIn.mono _) (mk_ext x3)) (by have := s3; rw [z2, z1] at this; exact this)
  have hE := (x1.trans x2).trans x3
  have c2 := c1.sl LeafR.elem
  rw [show w6.heap.size = w3.heap.size + 1 + 1 + 1 by omega] at c2
  have hE3 := hE.alloc (.cells #[.slice (some ⟨w3.heap.size, 0, none⟩) 1 1, .slice none 0 0, .slice (some ⟨w3.heap.size + 1, 0, none⟩) 1 1, .slice (some ⟨w3.heap.size + 1 + 1, 0, none⟩) 1 1] 103)
  refine (cover_any noY _ _ 2 2 1 _ c2 (by simp) (hid (by simp)) (hnoX _)).mono ?_
  rw [cov2.out]
  rintro e w7 ⟨hE4, rfl⟩
  have hE7 := hE5.trans (hE3.trans hE4)
  clear c1 c2 s1 s2 s3 z1 z2 z3 x1 x2 x3 hE hE3 hE4 hE5
  clear e1 e2 e3
  go_wp2_with fail
  obtain ⟨w8, e1, s1, z1, x1⟩ := lits1 w7 0 3
  rw [e1]
  obtain ⟨w9, e2, s2, z2, x2⟩ := lits1 w8 1 3
  rw [e2]
  have c1 := two_leaves noY w9 [0] [] [1] [] (some ⟨w7.heap.size, 0, none⟩) none (some ⟨w7.heap.size + 1, 0, none⟩) none 1 0 1 0 1 0 1 0 103 (hnoX _) rfl rfl rfl rfl (by simp) (by simp) (by simp) (by simp) (s1.mono (IntIn.mono _) (mk_ext x2)) (Sl.nil _ _ _ _) (z1 ▸ s2) (Sl.nil _ _ _ _)
  have hE := x1.trans x2
  have c2 := c1.sl LeafR.elem
  rw [show w9.heap.size = w7.heap.size + 1 + 1 by omega] at c2
  have hE3 := hE.alloc (.cells #[.slice (some ⟨w7.heap.size, 0, none⟩) 1 1, .slice none 0 0, .slice (some ⟨w7.heap.size + 1, 0, none⟩) 1 1, .slice none 0 0] 103)
  refine (cover_any noY _ _ 2 2 1 _ c2 (by simp) (hid (by simp)) (hnoX _)).mono ?_
  rw [cov3.out]
  rintro e wa ⟨hE4, rfl⟩
  have hE8 := hE7.trans (hE3.trans hE4)
  clear c1 c2 s1 s2 z1 z2 x1 x2 hE hE3 hE4 hE7
  clear e1 e2
  go_wp2_with fail
  go_ret
  exact ⟨hE8, rfl⟩
end Go.Proofs.YtjbhcniiioepgaaGreat


namespace Go.Proofs.YtjbhcniiioepgaaGreat
open Go.RowKit Go.Rep Go.Lim Go.Lin
theorem tape_hx {tb : Nat} {w : World} (h : tb < w.heap.size) : HX (tbm tb) w := fun k hk => by
  have : k = tb := by simpa [tbm] using hk
  omega
theorem tape_ext {w w1 w2 : World} (hE : Ext w w1) (h : ExtX (tbm w.heap.size) w1 w2) : Ext w w2 := hE.then_ h fun i hi _ => tbm_ne (by omega)

set_option maxRecDepth 100000 in
set_option maxHeartbeats 1600000 in
theorem depths_any (lo : Option Addr) (l : List Int) (cl : Nat) (most : Int) (w : World) (hl : Sl (IntIn .i64) 1 w.cell? lo l) (hcl : l.length ≤ cl) (hlb : l.length ≤ 9223372036854775807) :
    Calls Tryz.prog 4 #[.slice lo l.length cl, .int .i64 most] w (BoolOut w true) := by
  go_enter Tryz.func4, Tryz.ntmps4
  go_wp2_with fail
  refine (tnew_any lo l cl w hl hcl hlb).mono ?_
  rintro e w1 ⟨rfl, hE1, ht1, hsz1⟩
  have hX1 : HX (tbm w.heap.size) w1 := tape_hx (by omega)
  have hfin := hid (fun w2 (h : ExtX (tbm w.heap.size) w1 w2) => tape_ext hE1 h)
  obtain ⟨tb, htb⟩ : ∃ tb, w.heap.size = tb := ⟨_, rfl⟩
  rw [htb] at ht1 hX1 hfin ⊢
  have htb' := hid htb
  clear hE1 hsz1 htb
  obtain ⟨X, hXe⟩ : ∃ X, tbm tb = X := ⟨_, rfl⟩
  have hsub := tbm_sub ht1.1
  have htX := ht1.1
  rw [hXe] at ht1 hX1 htX
  have hXe' := hid hXe
  have hsub2 : ∀ k, tbm tb k = true → X k = true := fun k hk => by rw [← hXe]; exact hk
  clear hsub hXe
  go_wp2_with fail
  refine (tany_any X tb 7 w1 ht1 hX1 (by decide) (by decide)).mono ?_
  rintro e w2 ⟨hE2, ht2, v2, p, rfl, hp, hpB, hpl, hpr⟩
  have hX2 := hX1.ext hE2
  have hpl2 : p.length ≤ 65 := by omega
  go_wp2_with fail
  refine (tat_any X tb w2 v2 p 510 4 ht2 hX2 hp (by omega) hpB hpr (by decide) (by decide) (by decide)).mono ?_
  rintro e w3 ⟨hE3, ht3, v3, y, rfl, hy, hyB, hyl⟩
  have hX3 := hX2.ext hE3
  have hp3 := MV.mono _ _ _ _ (mk_mono hE3 hsub2) hp
  have hF3 := hE2.trans hE3
  obtain ⟨yo, yc, rfl, hyc, hys⟩ := hy
  have hyl' := hid hyl
  obtain ⟨c, hc⟩ : ∃ c, y.length = c := ⟨_, rfl⟩
  have hc' := hid hc
  rw [hc] at hyl hyc ⊢
  clear hE2 hE3 ht2 hp hX2 hc
  go_wp2_with fail
  refine (next_any X tb 4 w3 ht3 (by omega)).mono ?_
  rintro e w4 ⟨hE4, ht4, i0, rfl, hi0⟩
  have hi4 : i0 < 4 := by omega
  have hF4 := hF3.trans hE4
  have hX4 := hX3.ext hE4
  have hp4 := MV.mono _ _ _ _ (mk_mono hE4 hsub2) hp3
  have hys4 := hys.mono QV.mono (mk_mono hE4 hsub2)
  clear hF3 hE4 ht3 hX3 hp3 hys hi0
  obtain ⟨wo, hwo⟩ : ∃ wo, wo = w4 := ⟨_, rfl⟩
  subst hwo
  go_wp2_with fail
  go_loopw [8, 9] (fun s cc wr => ∃ (i q : Nat) (oo : Option Addr) (co : Nat) (us : List (List Rat)), cc = .int .i64 i ∧ s = .slice oo q co ∧ us.length = q ∧ i + q ≤ 3 ∧ (∀ r ∈ us, r.length = c) ∧ BM 3 us ∧ OL RV 1 X wo.heap.size 33 wr oo co us ∧ TapeR (un X oo) tb wr ∧ ExtX (tbm tb) wo wr) (fun _ cc _ => (intOf cc).toNat)
  case atStart => exact ⟨i0, 0, none, 0, [], rfl, rfl, rfl, by omega, fun r hr => by simp at hr, fun r hr => by simp at hr, OL.nil _ _ _ _ _ _, ht4.none, ExtX.refl _⟩
  case round =>
    clear ht4
    obtain ⟨i, q, oo, co, us, rfl, rfl, hq, hiq, hur, huB, hO, htr, hE⟩ := hrel
    have hXr : HX X wr := hX4.ext hE
    have hXu : HX (un X oo) wr := hO.unX hXr
    by_cases hi : 0 < i
    · obtain ⟨i, rfl⟩ : ∃ j, i = j + 1 := ⟨i - 1, by omega⟩
      have hq' := hid hq
      go_wp2_with fail
      refine (toddrow_any (un X oo) tb c wr htr hXu (by omega)).mono ?_
      rintro e w5 ⟨hE5, po, r, pc, rfl, hrl, hrc, hrB, ht5, hP⟩
      have hO5 := hO.ext RV.elem hE5 (fun k _ hk => hsub2 k hk) (fun _ _ h => h)
      have hF5 := hE.trans hE5
      have hX5 := hX4.ext hF5
      have hRV : RV (mk (un X oo) w5) (.slice po c pc) r := ⟨po, pc, by rw [hrl], by rw [hrl]; exact hrc, hP.sl QV.elem⟩
      have ht5u : TapeR (un X oo) tb w5 := ht5.unX (un_left htX)
      have hb5 := hF5.size
      have hl2 : (us ++ [r]).length = q + 1 := by rw [List.length_append, hq]; rfl
      have hr2 : ∀ x ∈ us ++ [r], x.length = c := fun x hx => by
        rcases List.mem_append.1 hx with h | h
        · exact hur x h
        · rw [List.mem_singleton.1 h]; exact hrl
      have hB2 : BM 3 (us ++ [r]) := fun x hx => by
        rcases List.mem_append.1 hx with h | h
        · exact huB x h
        · rw [List.mem_singleton.1 h]; exact hrB
      clear hO htr hE hE5 ht5 hP hq hrl hXr hXu
      go_wp2_with (at_builtin; refine st_append1n (l := us) slRats rfl RV.elem hb5 hX5 q hq'.out rfl rfl hO5 (.slice po c pc) r rfl hRV (by omega) (by omega) ?_; intro oo2 co2 w7 hO7 hE7 hor)
      have hE8 := hF5.own hO5 (Nat.le_refl _) hE7
      have ht8 := ht5u.unstep (hO5.not_ob htX) hE7 hor
      go_roundw
      case rel => exact ⟨i, q + 1, oo2, co2, _, by go_num, by go_num, hl2, by omega, hr2, hB2, hO7, ht8, hE8⟩
      case measure => simp [intOf]
    · go_wp2_with fail
      refine (next_any (un X oo) tb 6 wr htr (by omega)).mono ?_
      rintro e w5 ⟨hE5, ht5, m5, rfl, hm5⟩
      have hO5 := hO.ext RV.elem hE5 (fun k _ hk => hsub2 k hk) (fun _ _ h => h)
      have hF5 := hE.trans hE5
      have hX5 := hX4.ext hF5
      have hp5 := MV.mono _ _ _ _ (mk_mono hF5 hsub2) hp4
      have hy5 := hys4.mono QV.mono (mk_mono hF5 hsub2)
      have hu5 : MV (mk X w5) (.slice oo q co) us := ⟨oo, co, by rw [hq], hO5.lenCap, hO5.sl RV.elem⟩
      have hfin5 := hid (hfin.out w5 (by rw [hXe'.out] at *; exact hF4.trans hF5))
      have hEa : Ext w5 (w5.alloc (.cells #[.int .i64 m5, .int .i64 most] 3)) := (ExtX.refl _).alloc _
      have hlit := (lit_sl X w5 [(m5 : Int), most] 3 #[.int .i64 m5, .int .i64 most] rfl hX5 (by simp)).sl (IntIn.elem _)
      obtain ⟨w6, hw6⟩ : ∃ w6, w5.alloc (.cells #[.int .i64 m5, .int .i64 most] 3) = w6 := ⟨_, rfl⟩
      obtain ⟨g6, hg6⟩ : ∃ g6 : Option Addr, some ⟨w5.heap.size, 0, none⟩ = g6 := ⟨_, rfl⟩
      obtain ⟨L, hL⟩ : ∃ L, [(m5 : Int), most] = L := ⟨_, rfl⟩
      have hLl : Hid (L.length = 2) := hid (by rw [← hL]; rfl)
      rw [hw6] at hEa hlit
      rw [hg6, hL] at hlit
      have hhL := hlit.hd
      rw [hLl.out] at hhL
      have hp6 := mkx MV.mono hp5 hEa
      have hy6 : RV (mk X w6) (.slice yo c yc) y := ⟨yo, yc, by rw [hc'.out], by rw [hc'.out]; exact hyc, hy5.mono QV.mono (mk_ext hEa)⟩
      have hu6 := mkx MV.mono hu5 hEa
      have hX6 := hX5.ext hEa
      clear hO htr hE hE5 ht5 hO5 hF5 hp5 hy5 hu5 hL hX5 hXu hXr hp4 hys4 hF4
      go_wp2_with fail
      go_loopw [37] (fun cc wr => ∃ (j : Nat), cc = .int .i64 j ∧ j ≤ 2 ∧ Ext w6 wr) (fun cc _ => 2 - (intOf cc).toNat)
      case atStart => exact ⟨0, rfl, Nat.zero_le _, ExtX.refl _⟩
      case round =>
        obtain ⟨j, rfl, hj, hE⟩ := hrel
        by_cases hlt : j < 2
        · have hjL : j < L.length := by rw [hLl.out]; exact hlt
          have k00 := (hlit.mono (IntIn.mono _) (mk_ext hE)).int j hjL
          obtain ⟨n, hn⟩ : ∃ n, L[j] = n := ⟨_, rfl⟩
          rw [hn] at k00
          clear hn
          have hp7 := mkx MV.mono hp6 hE
          have hy7 := mkx RV.mono hy6 hE
          have hu7 := mkx MV.mono hu6 hE
          have hX7 := hX6.ext hE
          have hpB7 : BM 1023 p := fun r hr q hq => Nat.le_trans (hpB r hr q hq) (by omega)
          have hur7 : ∀ r ∈ us, r.length ≤ 1000 := fun r hr => by have := hur r hr; omega
          go_wp2_with (with_reducible refine up_ix1 slInt (by omega) (by assumption) ?_)
          refine (chalf_any X wr _ _ _ p y n us 1023 3 hX7 hp7 hy7 hu7 (by omega) (by omega) hur7 hpB7 hyB huB (by decide) (by decide) (by decide)).mono ?_
          rintro e w8 ⟨hE8, rfl⟩
          go_wp2_with fail
          refine (rhalf_any X w8 _ _ _ p y n us 1023 3 (hX7.ext hE8) (mkx MV.mono hp7 hE8) (mkx RV.mono hy7 hE8) (mkx MV.mono hu7 hE8) (by omega) (by omega) hur7 hpB7 hyB huB (by decide) (by decide) (by decide)).mono ?_
          rintro e w9 ⟨hE9, rfl⟩
          obtain ⟨b, hb⟩ : ∃ b, halfB p y n us = b := ⟨_, rfl⟩
          rw [hb]
          have hEn := hE.trans (hE8.trans hE9)
          clear hb k00
          cases b
          all_goals
            go_wp2_with fail
            go_roundw
            case rel => exact ⟨j + 1, by go_num, by omega, hEn⟩
            case measure => simp [intOf]; omega
        · have hEe := hfin5.out.trans (hEa.trans hE)
          go_wp2_with fail
          refine (awake_any wr).mono ?_
          rintro e w9 ⟨hE9, rfl⟩
          go_wp2_with fail
          go_ret
          exact ⟨hEe.trans hE9, rfl⟩
end Go.Proofs.YtjbhcniiioepgaaGreat


namespace Go.Proofs.YtjbhcniiioepgaaGreat
open Go.ChangeShapes Go.WideShapes Go.ChangeAt Go.RowKit Go.Rep Go.Deep

section
variable {H : Type} {enc : TypeId × Value → H} {w : World} {base : Nat} {spare : Nat → Bool} {held : Bool}

theorem adr_some {x : Addr} {v : Value} (h : w.cell? (x.add 0) = some v) : (∀ j, x.add j = adr (some x) j) ∧ ∃ b off, x = ⟨b, off, none⟩ := by
  have hs := World.cell?_spot h
  obtain ⟨b, off, spot⟩ := x
  have hspot : spot = none := by simpa [Addr.add] using hs
  subst hspot
  exact ⟨fun j => by rw [Addr.add_lit]; simp [adr], b, off, rfl⟩

end
end Go.Proofs.YtjbhcniiioepgaaGreat


namespace Go.Proofs.YtjbhcniiioepgaaGreat
open Go.ChangeShapes Go.WideShapes Go.ChangeAt Go.RowKit Go.Rep Go.Deep
theorem rng_i64 {n : Int} (h : (Lit.int .i64 n).wf = true) : -9223372036854775808 ≤ n ∧ n ≤ 9223372036854775807 := by
  unfold Lit.wf at h
  simpa [IntKind.min, IntKind.max, IntKind.signed, IntKind.bits] using h
section
variable {H : Type} {enc : TypeId × Value → H} {P : Program} {w : World} {base : Nat} {spare : Nat → Bool} {held : Bool}
theorem ints_wf {fuel : Nat} {v : Value} {x : DataW H × List MemPlace} (h : DataW.trod enc Tryz.prog w base spare held fuel 22 [v] = some x) :
    ∃ (a : Option Addr) (l : List Int) (cap : Nat), v = .slice a l.length cap ∧ l.length ≤ cap ∧ l.length ≤ 9223372036854775807 ∧ Sl (IntIn .i64) 1 (mk noY w) a l ∧ ∀ x ∈ l, -9223372036854775808 ≤ x ∧ x ≤ 9223372036854775807 := by
  rw [mk_noY]
  rcases open_ints Tryz.underlying22 Tryz.underlying3 (by kernel_rfl) h with ⟨hcs, _⟩ | ⟨x, len, c, zs, hcs, _, hl, hm, hz, _, hcell, hwf⟩
  · refine ⟨none, [], 0, by simpa using hcs, by simp, by simp, Sl.nil _ _ _ _, by simp⟩
  · have hzl : len ≤ zs.length := by
      rw [hz]; split <;> omega
    have hlen : (zs.take len).length = len := by simp; omega
    have hmax : c ≤ 9223372036854775807 := by simpa [maxLen] using hm
    refine ⟨some x, zs.take len, c, by rw [hlen]; simpa using hcs, by omega, by omega, ⟨fun h0 => ?_, fun i hi => ?_⟩, fun y hy => rng_i64 (hwf y (List.mem_of_mem_take hy))⟩
    · obtain ⟨_, b, off, hx⟩ := adr_some (hcell 0 (by omega))
      exact ⟨b, off, by rw [hx]⟩
    · have hi' : i < zs.length := by omega
      refine ⟨.int .i64 (zs.take len)[i], rfl, fun j hj => ?_, rfl⟩
      have hj0 : j = 0 := by simp [Value.cells] at hj; exact hj
      subst hj0
      have h1 := hcell i hi'
      have h2 := (adr_some (hcell 0 (by omega))).1 i
      rw [h2] at h1
      simp only [Nat.mul_one, Nat.add_zero, List.getElem_take]
      rw [h1]
      simp [List.getD_eq_getElem?_getD, hi', Value.cells]
end
end Go.Proofs.YtjbhcniiioepgaaGreat


namespace Go.Proofs.YtjbhcniiioepgaaGreat.seat
open Go.RowKit
theorem and_t {a b : Bool} (h1 : a = true) (h2 : b = true) : (a && b) = true := by rw [h1, h2]; rfl
theorem laid : laidOutB Tryz.pinned.checked.prog = true := by kernel_rfl
theorem maps : mapsRowed Tryz.pinned.checked.prog = true := by kernel_rfl
theorem stops : (Program.stops Tryz.pinned.checked.prog == []) = true := by kernel_rfl
theorem knobs : (Program.stopKnobs Tryz.pinned.checked.prog == []) = true := by kernel_rfl
theorem heard : Program.stopsHeard Tryz.pinned.checked.prog = true := by kernel_rfl
theorem enter : Program.mayEnter Tryz.pinned.checked.prog = true := by kernel_rfl
theorem lifts : (Rows.matrixReducedFormIsUniqueRow.lifted == Program.liftsFinal Tryz.pinned.checked.prog) = true := by kernel_rfl
theorem make : (Program.make Tryz.pinned.checked.prog == some Rows.matrixReducedFormIsUniqueRow.make) = true := by kernel_rfl
theorem plain : (Rows.matrixReducedFormIsUniqueRow.plainKeys == Program.plainKeys Tryz.pinned.checked.prog) = true := by kernel_rfl
end Go.Proofs.YtjbhcniiioepgaaGreat.seat

