/- The reference's Cover. Conditions: lengths far below any machine's. -/
import Derived.Test.YtblifbnbjffgkaaGen2
import Derived.Test.YtblifbnbjffgkaaCover1
namespace Go.Proofs.Ytblifbnbjffgkaa
open Go.RowKit Go.Rep Go.Lim

theorem rchoose_int (X : Nat → Bool) (m1 m2 : Int) (n k : Nat) (w : World) (h1 : m1 = (n : Int)) (h2 : m2 = (k : Int)) (hk : k ≤ n) (hn : n ≤ 64) (hX : ∀ k, X k = true → k < w.heap.size) :
    Calls Try.prog 48 #[.int .i64 m1, .int .i64 m2] w (NatOut X w (ch n k)) := by
  subst h1; subst h2; exact rchoose_any X n k w hk hn hX

set_option maxRecDepth 100000 in
set_option maxHeartbeats 1600000 in
theorem rcover_any (X : Nat → Bool) (lo : Option Addr) (L : List Leaf) (cl : Nat) (n h : Int) (w : World) (hs : Sl LeafR 2 (mk X w) lo L) (hcl : L.length ≤ cl) (hL : L.length ≤ 1099511627776) (hLl : Hid (∀ x ∈ L, x.1.length ≤ 1099511627776 ∧ x.2.length ≤ 1099511627776)) (hX : ∀ k, X k = true → k < w.heap.size) :
    Calls Try.prog 28 #[.int .i64 n, .int .i64 h, .slice lo L.length cl] w (BoolOut w (coverB n h L)) := by
  have hhl := hs.hd
  have hdef : Hid (coverB n h L = (decide (1 ≤ n) && decide (n ≤ 64) && decide (0 ≤ h) && decide (h ≤ n) && decide (L.length ≤ 4096) && (List.range L.length).all (goodAt n h L) && decide (sumL n.toNat h.toNat L = ch n.toNat h.toNat))) := hid rfl
  by_cases hn1 : n < 1
  · have hv : Hid (coverB n h L = false) := hid (by rw [hdef.out, decide_eq_false (by omega)]; rfl)
    go_enter Try.func28, Try.ntmps28
    go_wp2_with fail
    go_ret
    exact ⟨ExtX.refl _, ret_bool hv.out.symm⟩
  by_cases hn2 : 64 < n
  · have hv : Hid (coverB n h L = false) := hid (by rw [hdef.out, decide_eq_true (by omega), decide_eq_false (by omega)]; rfl)
    go_enter Try.func28, Try.ntmps28
    go_wp2_with fail
    go_ret
    exact ⟨ExtX.refl _, ret_bool hv.out.symm⟩
  by_cases hh1 : h < 0
  · have hv : Hid (coverB n h L = false) := hid (by rw [hdef.out, decide_eq_false (show ¬ 0 ≤ h by omega)]; simp)
    go_enter Try.func28, Try.ntmps28
    go_wp2_with fail
    go_ret
    exact ⟨ExtX.refl _, ret_bool hv.out.symm⟩
  by_cases hh2 : n < h
  · have hv : Hid (coverB n h L = false) := hid (by rw [hdef.out, decide_eq_false (show ¬ h ≤ n by omega)]; simp)
    go_enter Try.func28, Try.ntmps28
    go_wp2_with fail
    go_ret
    exact ⟨ExtX.refl _, ret_bool hv.out.symm⟩
  by_cases hl4 : 4096 < L.length
  · have hv : Hid (coverB n h L = false) := hid (by rw [hdef.out, decide_eq_false (show ¬ L.length ≤ 4096 by omega)]; simp)
    go_enter Try.func28, Try.ntmps28
    go_wp2_with fail
    go_ret
    exact ⟨ExtX.refl _, ret_bool hv.out.symm⟩
  obtain ⟨N, rfl⟩ := Int.eq_ofNat_of_zero_le (show 0 ≤ n by omega)
  obtain ⟨H, rfl⟩ := Int.eq_ofNat_of_zero_le (show 0 ≤ h by omega)
  have hN : N ≤ 64 := by omega
  have hHN : H ≤ N := by omega
  have hdef2 : Hid (coverB N H L = ((List.range L.length).all (goodAt N H L) && decide (sumL N H L = ch N H))) := hid (by
    rw [hdef.out, decide_eq_true (by omega), decide_eq_true (by omega), decide_eq_true (by omega), decide_eq_true (by omega), decide_eq_true (by omega)]; rfl)
  clear hdef
  go_enter Try.func28, Try.ntmps28
  go_wp2_with fail
  go_loopw [7, 34] (fun s8 c wr => ∃ (k : Nat) (so : Option Addr) (cs : Nat) (sl : List Nat), c = .int .i64 k ∧ s8 = .slice so sl.length cs ∧ k ≤ L.length ∧
      sl.length ≤ cs ∧ Canon sl (sumL N H (L.take k)) ∧ Sl (NatIn .u32) 1 (mk X wr) so sl ∧ Hid (∀ j, j < k → goodAt N H L j = true) ∧ Ext w wr) (fun _ c _ => L.length - (intOf c).toNat)
  case atStart => exact ⟨0, none, 0, [], rfl, rfl, Nat.zero_le _, by simp, Canon.nil, Sl.nil _ _ _ _, fun j hj => by omega, ExtX.refl _⟩
  case round =>
    obtain ⟨k, so, cs, sl, rfl, rfl, hk, hsc, hcan, hss, hgood, hE⟩ := hrel
    have hXr : ∀ k, X k = true → k < wr.heap.size := fun k hk => Nat.lt_of_lt_of_le (hX k hk) hE.size
    by_cases hlt : k < L.length
    · have hsL := hs.mono LeafR.mono (mk_ext hE)
      have hlen := hLl.out L[k] (List.getElem_mem hlt)
      obtain ⟨I, O, hx⟩ : ∃ I O, L[k] = (I, O) := ⟨_, _, rfl⟩
      rw [hx] at hlen
      obtain ⟨hlI, hlO⟩ := hlen
      simp only at hlI hlO
      have hx' := hid hx
      clear hx
      have hlf : Hid (leafOk N H (I, O) = ((decide ((I.length : Int) ≤ H) && ascB I N) && (decide ((O.length : Int) ≤ N - H) && ascB O N) && !meets I O)) := hid (by
        unfold leafOk
        cases ascB I N <;> cases ascB O N <;> cases decide ((I.length : Int) ≤ H) <;> cases decide ((O.length : Int) ≤ N - H) <;> rfl)
      have hbadv : Hid (leafOk N H (I, O) = false → coverB N H L = false) := hid (fun h => by rw [hdef2.out, all_range_false k hlt (goodAt_bad hlt hx'.out h)]; rfl)
      cases hpI : (decide ((I.length : Int) ≤ H) && ascB I N)
      · have hv := hid (hbadv.out (by rw [hlf.out, hpI]; rfl))
        have hpI' := hid hpI
        clear hpI
        go_wp2_with (first | (first | (with_reducible refine up_ix1 slInt (by omega) (by assumption) ?_) | (with_reducible refine up_ixn slLeaf (by omega) (by assumption) ?_) | (with_reducible refine up_ix1 slInts (by omega) (by assumption) ?_)) | ((with_reducible show wpList _ _ _ (⟨_, .load _ _, _, _, _, _⟩ :: _) _ _); refine st_loadElem stLeaf k hsL hlt rfl (by omega) LeafR.agg ?_; rintro u hu; rw [hx'.out] at hu; obtain ⟨a1, c1, a2, c2, rfl, hc1, hc2, hs2, hs3⟩ := hu))
        have hEn : Ext wr (wr.alloc (.cells #[.slice a1 I.length c1, .slice a2 O.length c2] 26)) := (ExtX.refl wr).alloc _
        generalize wr.alloc (.cells #[.slice a1 I.length c1, .slice a2 O.length c2] 26) = W at hEn ⊢
        refine (rpart_any X a1 I c1 N H W (hs2.mono (IntIn.mono _) (mk_ext hEn)) hlI).mono ?_; rintro e w' ⟨rfl, rfl⟩; rw [hpI'.out]
        go_wp2_with fail
        go_ret
        exact ⟨hE.trans hEn, ret_bool hv.out.symm⟩
      have hpI' := hid hpI
      cases hpO : (decide ((O.length : Int) ≤ N - H) && ascB O N)
      · have hv := hid (hbadv.out (by rw [hlf.out, hpI, hpO]; rfl))
        have hpO' := hid hpO
        clear hpI hpO
        go_wp2_with (first | (first | (with_reducible refine up_ix1 slInt (by omega) (by assumption) ?_) | (with_reducible refine up_ixn slLeaf (by omega) (by assumption) ?_) | (with_reducible refine up_ix1 slInts (by omega) (by assumption) ?_)) | ((with_reducible show wpList _ _ _ (⟨_, .load _ _, _, _, _, _⟩ :: _) _ _); refine st_loadElem stLeaf k hsL hlt rfl (by omega) LeafR.agg ?_; rintro u hu; rw [hx'.out] at hu; obtain ⟨a1, c1, a2, c2, rfl, hc1, hc2, hs2, hs3⟩ := hu))
        have hEn : Ext wr (wr.alloc (.cells #[.slice a1 I.length c1, .slice a2 O.length c2] 26)) := (ExtX.refl wr).alloc _
        have k2 : (wr.alloc (.cells #[.slice a1 I.length c1, .slice a2 O.length c2] 26)).cell? ⟨wr.heap.size, 1, none⟩ = some (.slice a2 O.length c2) := cell_new 1 rfl
        generalize wr.alloc (.cells #[.slice a1 I.length c1, .slice a2 O.length c2] 26) = W at hEn k2 ⊢
        refine (rpart_any X a1 I c1 N H W (hs2.mono (IntIn.mono _) (mk_ext hEn)) hlI).mono ?_; rintro e w' ⟨rfl, rfl⟩; rw [hpI'.out]
        go_wp2_with fail
        refine (rpart_any X a2 O c2 N (N - H) W (hs3.mono (IntIn.mono _) (mk_ext hEn)) hlO).mono ?_; rintro e w' ⟨rfl, rfl⟩; rw [hpO'.out]
        go_wp2_with fail
        go_ret
        exact ⟨hE.trans hEn, ret_bool hv.out.symm⟩
      have hpO' := hid hpO
      rcases Bool.eq_false_or_eq_true (meets I O) with hm | hm
      · have hv := hid (hbadv.out (by rw [hlf.out, hpI, hpO, hm]; rfl))
        have hm' := hid hm
        clear hpI hpO hm
        go_wp2_with (first | (first | (with_reducible refine up_ix1 slInt (by omega) (by assumption) ?_) | (with_reducible refine up_ixn slLeaf (by omega) (by assumption) ?_) | (with_reducible refine up_ix1 slInts (by omega) (by assumption) ?_)) | ((with_reducible show wpList _ _ _ (⟨_, .load _ _, _, _, _, _⟩ :: _) _ _); refine st_loadElem stLeaf k hsL hlt rfl (by omega) LeafR.agg ?_; rintro u hu; rw [hx'.out] at hu; obtain ⟨a1, c1, a2, c2, rfl, hc1, hc2, hs2, hs3⟩ := hu))
        have hEn : Ext wr (wr.alloc (.cells #[.slice a1 I.length c1, .slice a2 O.length c2] 26)) := (ExtX.refl wr).alloc _
        have k1 : (wr.alloc (.cells #[.slice a1 I.length c1, .slice a2 O.length c2] 26)).cell? ⟨wr.heap.size, 0, none⟩ = some (.slice a1 I.length c1) := cell_new 0 rfl
        have k2 : (wr.alloc (.cells #[.slice a1 I.length c1, .slice a2 O.length c2] 26)).cell? ⟨wr.heap.size, 1, none⟩ = some (.slice a2 O.length c2) := cell_new 1 rfl
        generalize wr.alloc (.cells #[.slice a1 I.length c1, .slice a2 O.length c2] 26) = W at hEn k1 k2 ⊢
        refine (rpart_any X a1 I c1 N H W (hs2.mono (IntIn.mono _) (mk_ext hEn)) hlI).mono ?_; rintro e w' ⟨rfl, rfl⟩; rw [hpI'.out]
        go_wp2_with fail
        refine (rpart_any X a2 O c2 N (N - H) W (hs3.mono (IntIn.mono _) (mk_ext hEn)) hlO).mono ?_; rintro e w' ⟨rfl, rfl⟩; rw [hpO'.out]
        go_wp2_with fail
        refine (rmeets_any X a1 a2 I O c1 c2 W (hs2.mono (IntIn.mono _) (mk_ext hEn)) (hs3.mono (IntIn.mono _) (mk_ext hEn)) hlI hlO).mono ?_; rintro e w' ⟨rfl, rfl⟩; rw [hm'.out]
        go_wp2_with fail
        go_ret
        exact ⟨hE.trans hEn, ret_bool hv.out.symm⟩
      have hokl' : Hid (leafOk N H (I, O) = true) := hid (by rw [hlf.out, hpI, hpO, hm]; rfl)
      have hm' := hid hm
      clear hpI hpO hm
      go_wp2_with (first | (first | (with_reducible refine up_ix1 slInt (by omega) (by assumption) ?_) | (with_reducible refine up_ixn slLeaf (by omega) (by assumption) ?_) | (with_reducible refine up_ix1 slInts (by omega) (by assumption) ?_)) | ((with_reducible show wpList _ _ _ (⟨_, .load _ _, _, _, _, _⟩ :: _) _ _); refine st_loadElem stLeaf k hsL hlt rfl (by omega) LeafR.agg ?_; rintro u hu; rw [hx'.out] at hu; obtain ⟨a1, c1, a2, c2, rfl, hc1, hc2, hs2, hs3⟩ := hu))
      have hEn : Ext wr (wr.alloc (.cells #[.slice a1 I.length c1, .slice a2 O.length c2] 26)) := (ExtX.refl wr).alloc _
      have k1 : (wr.alloc (.cells #[.slice a1 I.length c1, .slice a2 O.length c2] 26)).cell? ⟨wr.heap.size, 0, none⟩ = some (.slice a1 I.length c1) := cell_new 0 rfl
      have k2 : (wr.alloc (.cells #[.slice a1 I.length c1, .slice a2 O.length c2] 26)).cell? ⟨wr.heap.size, 1, none⟩ = some (.slice a2 O.length c2) := cell_new 1 rfl
      generalize wr.alloc (.cells #[.slice a1 I.length c1, .slice a2 O.length c2] 26) = W at hEn k1 k2 ⊢
      refine (rpart_any X a1 I c1 N H W (hs2.mono (IntIn.mono _) (mk_ext hEn)) hlI).mono ?_; rintro e w' ⟨rfl, rfl⟩; rw [hpI'.out]
      go_wp2_with fail
      refine (rpart_any X a2 O c2 N (N - H) W (hs3.mono (IntIn.mono _) (mk_ext hEn)) hlO).mono ?_; rintro e w' ⟨rfl, rfl⟩; rw [hpO'.out]
      go_wp2_with fail
      refine (rmeets_any X a1 a2 I O c1 c2 W (hs2.mono (IntIn.mono _) (mk_ext hEn)) (hs3.mono (IntIn.mono _) (mk_ext hEn)) hlI hlO).mono ?_; rintro e w' ⟨rfl, rfl⟩; rw [hm'.out]
      have hEW : Ext w W := hE.trans hEn
      have hsW := hss.mono (NatIn.mono _) (mk_ext hEn)
      have hs2W := hs2.mono (IntIn.mono _) (mk_ext hEn)
      have hs3W := hs3.mono (IntIn.mono _) (mk_ext hEn)
      clear hE hEn hss hs2 hs3 hsL
      go_wp2_with fail
      have hhk : Hd lo k := fun h => hhl (by omega)
      obtain ⟨wo, rfl⟩ : ∃ wo : World, wo = wr := ⟨_, rfl⟩
      go_loopw [66] (fun c wr' => ∃ j : Nat, c = .int .i64 j ∧ j ≤ k ∧ Hid (∀ q, q < j → ∀ hq : q < L.length, apartL (I, O) L[q] = true) ∧ Ext W wr') (fun c _ => k - (intOf c).toNat)
      case atStart => exact ⟨0, rfl, Nat.zero_le _, fun q hq => by omega, ExtX.refl _⟩
      case round =>
        obtain ⟨j, rfl, hj, hap, hEj⟩ := hrel
        have hXj : ∀ k, X k = true → k < wr.heap.size := fun k hk => Nat.lt_of_lt_of_le (hXr k hk) (by have h1 := hEj.size; have h2 := cell_lt k1; simp at h2; omega)
        have k1j := hEj.cell k1
        have k2j := hEj.cell k2
        by_cases hjk : j < k
        · have hjL : j < L.length := by omega
          have hsL := hs.mono LeafR.mono (mk_ext (hEW.trans hEj))
          have hlen := hLl.out L[j] (List.getElem_mem hjL)
          obtain ⟨I2, O2, hy⟩ : ∃ I2 O2, L[j] = (I2, O2) := ⟨_, _, rfl⟩
          rw [hy] at hlen
          obtain ⟨hlI2, hlO2⟩ := hlen
          simp only at hlI2 hlO2
          have hy' := hid hy
          clear hy
          have hap2 : Hid (apartL (I, O) (I2, O2) = (meets I O2 || meets O I2)) := hid rfl
          cases hm1 : meets I O2
          · cases hm2 : meets O I2
            · have hv : Hid (coverB N H L = false) := hid (by rw [hdef2.out, all_range_false k hlt (goodAt_not hlt hx'.out hjk (by rw [hy'.out, hap2.out, hm1, hm2]; rfl))]; rfl)
              have hm1' := hid hm1
              have hm2' := hid hm2
              clear hm1 hm2
              go_wp2_with (first | (first | (with_reducible refine up_ix1 slInt (by omega) (by assumption) ?_) | (with_reducible refine up_ixn slLeaf (by omega) (by assumption) ?_) | (with_reducible refine up_ix1 slInts (by omega) (by assumption) ?_)) | ((with_reducible show wpList _ _ _ (⟨_, .load _ _, _, _, _, _⟩ :: _) _ _); refine st_loadElem stLeaf j hsL hjL rfl (by omega) LeafR.agg ?_; rintro u hu; rw [hy'.out] at hu; obtain ⟨b1, d1, b2, d2, rfl, hd1, hd2, hs4, hs5⟩ := hu; have hEo : Ext wr (wr.alloc (.cells #[.slice b1 I2.length d1, .slice b2 O2.length d2] 26)) := (ExtX.refl wr).alloc _; have k1o := hEo.cell k1j; have k2o := hEo.cell k2j))
              have l1 : (wr.alloc (.cells #[.slice b1 I2.length d1, .slice b2 O2.length d2] 26)).cell? ⟨wr.heap.size, 0, none⟩ = some (.slice b1 I2.length d1) := cell_new 0 rfl
              generalize wr.alloc (.cells #[.slice b1 I2.length d1, .slice b2 O2.length d2] 26) = V at hEo k1o k2o l1 ⊢
              refine (rmeets_any X a1 b2 I O2 c1 d2 V (hs2W.mono (IntIn.mono _) (mk_ext (hEj.trans hEo))) (hs5.mono (IntIn.mono _) (mk_ext hEo)) hlI hlO2).mono ?_; rintro e w' ⟨rfl, rfl⟩; rw [hm1'.out]
              go_wp2_with fail
              refine (rmeets_any X a2 b1 O I2 c2 d1 V (hs3W.mono (IntIn.mono _) (mk_ext (hEj.trans hEo))) (hs4.mono (IntIn.mono _) (mk_ext hEo)) hlO hlI2).mono ?_; rintro e w' ⟨rfl, rfl⟩; rw [hm2'.out]
              go_wp2_with fail
              go_ret
              exact ⟨(hEW.trans hEj).trans hEo, ret_bool hv.out.symm⟩
            · have hn := hid (upto_succ hap.out (fun hq => show apartL (I, O) L[j] = true by rw [hy'.out, hap2.out, hm1, hm2]; rfl))
              have hm1' := hid hm1
              have hm2' := hid hm2
              clear hm1 hm2
              go_wp2_with (first | (first | (with_reducible refine up_ix1 slInt (by omega) (by assumption) ?_) | (with_reducible refine up_ixn slLeaf (by omega) (by assumption) ?_) | (with_reducible refine up_ix1 slInts (by omega) (by assumption) ?_)) | ((with_reducible show wpList _ _ _ (⟨_, .load _ _, _, _, _, _⟩ :: _) _ _); refine st_loadElem stLeaf j hsL hjL rfl (by omega) LeafR.agg ?_; rintro u hu; rw [hy'.out] at hu; obtain ⟨b1, d1, b2, d2, rfl, hd1, hd2, hs4, hs5⟩ := hu; have hEo : Ext wr (wr.alloc (.cells #[.slice b1 I2.length d1, .slice b2 O2.length d2] 26)) := (ExtX.refl wr).alloc _; have k1o := hEo.cell k1j; have k2o := hEo.cell k2j))
              have l1 : (wr.alloc (.cells #[.slice b1 I2.length d1, .slice b2 O2.length d2] 26)).cell? ⟨wr.heap.size, 0, none⟩ = some (.slice b1 I2.length d1) := cell_new 0 rfl
              generalize wr.alloc (.cells #[.slice b1 I2.length d1, .slice b2 O2.length d2] 26) = V at hEo k1o k2o l1 ⊢
              refine (rmeets_any X a1 b2 I O2 c1 d2 V (hs2W.mono (IntIn.mono _) (mk_ext (hEj.trans hEo))) (hs5.mono (IntIn.mono _) (mk_ext hEo)) hlI hlO2).mono ?_; rintro e w' ⟨rfl, rfl⟩; rw [hm1'.out]
              go_wp2_with fail
              refine (rmeets_any X a2 b1 O I2 c2 d1 V (hs3W.mono (IntIn.mono _) (mk_ext (hEj.trans hEo))) (hs4.mono (IntIn.mono _) (mk_ext hEo)) hlO hlI2).mono ?_; rintro e w' ⟨rfl, rfl⟩; rw [hm2'.out]
              go_wp2_with fail
              go_roundw
              case rel => exact ⟨j + 1, by go_num, by omega, hn.out, hEj.trans hEo⟩
              case measure => simp [intOf]; omega
          · have hn := hid (upto_succ hap.out (fun hq => show apartL (I, O) L[j] = true by rw [hy'.out, hap2.out, hm1]; rfl))
            have hm1' := hid hm1
            clear hm1
            go_wp2_with (first | (first | (with_reducible refine up_ix1 slInt (by omega) (by assumption) ?_) | (with_reducible refine up_ixn slLeaf (by omega) (by assumption) ?_) | (with_reducible refine up_ix1 slInts (by omega) (by assumption) ?_)) | ((with_reducible show wpList _ _ _ (⟨_, .load _ _, _, _, _, _⟩ :: _) _ _); refine st_loadElem stLeaf j hsL hjL rfl (by omega) LeafR.agg ?_; rintro u hu; rw [hy'.out] at hu; obtain ⟨b1, d1, b2, d2, rfl, hd1, hd2, hs4, hs5⟩ := hu; have hEo : Ext wr (wr.alloc (.cells #[.slice b1 I2.length d1, .slice b2 O2.length d2] 26)) := (ExtX.refl wr).alloc _; have k1o := hEo.cell k1j; have k2o := hEo.cell k2j))
            generalize wr.alloc (.cells #[.slice b1 I2.length d1, .slice b2 O2.length d2] 26) = V at hEo k1o k2o ⊢
            refine (rmeets_any X a1 b2 I O2 c1 d2 V (hs2W.mono (IntIn.mono _) (mk_ext (hEj.trans hEo))) (hs5.mono (IntIn.mono _) (mk_ext hEo)) hlI hlO2).mono ?_; rintro e w' ⟨rfl, rfl⟩; rw [hm1'.out]
            go_wp2_with fail
            go_roundw
            case rel => exact ⟨j + 1, by go_num, by omega, hn.out, hEj.trans hEo⟩
            case measure => simp [intOf]; omega
        · have hjk' : j = k := by omega
          subst hjk'
          have hgk := hid (goodAt_yes (N := (N : Int)) (H := (H : Int)) hlt hx'.out hokl'.out fun q hq => hap.out q hq (by omega))
          obtain ⟨hI1, hO1, hI2, hO3, hmt⟩ := leafOk_parts hokl'.out
          clear hI1 hO1 hmt
          have hst2 := hid (sumL_take N H L j hlt)
          go_wp2_with fail
          refine (rchoose_int X _ _ (N - I.length - O.length) (H - I.length) wr (by omega) (by omega) (by omega) (by omega) hXj).mono ?_
          rintro e w5 ⟨hE5, a5, c5, l5, rfl, hc5, hcan5, hs5⟩
          have hX5 : ∀ k, X k = true → k < w5.heap.size := fun k hk => Nat.lt_of_lt_of_le (hXj k hk) hE5.size
          have hss5 := hsW.mono (NatIn.mono _) (mk_ext (hEj.trans hE5))
          have hls := lg_sumL (N := N) (H := H) hN (L.take j) (by simp; omega)
          have hlc := lg_ch (n := N - I.length - O.length) (k := H - I.length) (by omega)
          rw [← hcan.len] at hls
          rw [← hcan5.len] at hlc
          go_wp2_with fail
          refine (radd_any X so a5 sl l5 cs c5 w5 hss5 hs5 hcan.1 hcan5.1 (by omega) (by omega) hX5 _ _ hcan.val hcan5.val).mono ?_
          rintro e w6 ⟨hE6, a6, c6, l6, rfl, hc6, hcan6, hs6⟩
          have hL1 : Hid (L[j].1 = I ∧ L[j].2 = O) := hid (by rw [hx'.out]; exact ⟨rfl, rfl⟩)
          have hcan6' : Canon l6 (sumL N H (L.take (j + 1))) := by
            rw [hst2.out, hL1.out.1, hL1.out.2]; exact hcan6
          have hgood' := hid (upto_succ hgood.out hgk.out)
          go_wp2_with fail
          go_roundw
          case rel => exact ⟨j + 1, a6, c6, l6, by go_num, rfl, by omega, hc6, hcan6', hs6, hgood'.out, ((hEW.trans hEj).trans hE5).trans hE6⟩
          case measure => simp [intOf]; omega
    · have hke : k = L.length := by omega
      subst hke
      rw [List.take_length] at hcan
      have hall := hid (all_range_true hgood.out)
      have hls := lg_sumL (N := N) (H := H) hN L (by omega)
      rw [← hcan.len] at hls
      go_wp2_with fail
      refine (rchoose_any X N H wr hHN hN hXr).mono ?_
      rintro e w5 ⟨hE5, a5, c5, l5, rfl, hc5, hcan5, hs5⟩
      have hX5 : ∀ k, X k = true → k < w5.heap.size := fun k hk => Nat.lt_of_lt_of_le (hXr k hk) hE5.size
      have hlc := lg_ch (n := N) (k := H) (by omega)
      rw [← hcan5.len] at hlc
      go_wp2_with fail
      refine (rcompare_any X so a5 sl l5 cs c5 w5 (hss.mono (NatIn.mono _) (mk_ext hE5)) hs5 hcan.1 hcan5.1 (by omega) (by omega) hX5 _ _ hcan.val hcan5.val).mono ?_
      rintro e w6 ⟨hE6, rfl⟩
      have hv : Hid ((cmpN (sumL N H L) (ch N H) == 0) = coverB N H L) := hid (by
        rw [hdef2.out, hall.out, Bool.true_and, Bool.eq_iff_iff]
        simp [cmpN_eq])
      generalize cmpN (sumL N H L) (ch N H) = c at hv ⊢
      go_wp2_with fail
      go_ret
      exact ⟨(hE.trans hE5).trans hE6, ret_bool hv.out⟩
end Go.Proofs.Ytblifbnbjffgkaa
