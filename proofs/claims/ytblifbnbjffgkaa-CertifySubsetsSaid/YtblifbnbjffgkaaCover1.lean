/- certify.Cover. Conditions: lengths far below any machine's. -/
import Derived.Test.YtblifbnbjffgkaaLeaf1
import Derived.Test.YtblifbnbjffgkaaGen2
namespace Go.Proofs.Ytblifbnbjffgkaa
open Go.RowKit Go.Rep Go.Lim

theorem slLeaf : SliceT Try.prog 23 26 2 48 (.agg #[.slice none 0 0, .slice none 0 0]) := ⟨Try.underlying23, by kernel_rfl⟩
theorem slInts : SliceT Try.prog 33 22 1 24 (.slice none 0 0) := ⟨Try.underlying33, by kernel_rfl⟩

theorem stLeaf : StructT Try.prog 26 2 := by
  have h : (Try.prog.info? 26).map (fun i => (i.zero, i.size, i.bytes)) = some (some (.agg #[.slice none 0 0, .slice none 0 0]), 2, 48) := by kernel_rfl
  obtain ⟨ti, h1, _, h2, _⟩ := info_parts h
  exact ⟨_, ti, Try.underlying26, h1, h2⟩

/-- A bool comes back. -/
def BoolOut (w : World) (b : Bool) (e : Ending) (w' : World) : Prop := Ext w w' ∧ e = .returned (.bool b)

theorem choose_int (X : Nat → Bool) (m1 m2 : Int) (n k : Nat) (w : World) (h1 : m1 = (n : Int)) (h2 : m2 = (k : Int)) (hk : k ≤ n) (hn : n ≤ 64) (hX : ∀ k, X k = true → k < w.heap.size) :
    Calls Try.prog 26 #[.int .i64 m1, .int .i64 m2] w (NatOut X w (ch n k)) := by
  subst h1; subst h2; exact choose_any X n k w hk hn hX

set_option maxRecDepth 100000 in
set_option maxHeartbeats 1600000 in
theorem cover_any (X : Nat → Bool) (lo : Option Addr) (L : List Leaf) (cl : Nat) (n h : Int) (w : World) (hs : Sl LeafR 2 (mk X w) lo L) (hL : L.length ≤ 1099511627776) (hLl : Hid (∀ x ∈ L, x.1.length ≤ 1099511627776 ∧ x.2.length ≤ 1099511627776)) (hX : ∀ k, X k = true → k < w.heap.size) :
    Calls Try.prog 11 #[.int .i64 n, .int .i64 h, .slice lo L.length cl] w (BoolOut w (coverB n h L)) := by
  have hhl := hs.hd
  have hdef : Hid (coverB n h L = (decide (1 ≤ n) && decide (n ≤ 64) && decide (0 ≤ h) && decide (h ≤ n) && decide (L.length ≤ 4096) && (List.range L.length).all (goodAt n h L) && decide (sumL n.toNat h.toNat L = ch n.toNat h.toNat))) := hid rfl
  by_cases hn1 : n < 1
  · have hv : Hid (coverB n h L = false) := hid (by rw [hdef.out, decide_eq_false (by omega)]; rfl)
    go_enter Try.func11, Try.ntmps11
    go_wp2_with fail
    go_ret
    exact ⟨ExtX.refl _, ret_bool hv.out.symm⟩
  by_cases hn2 : 64 < n
  · have hv : Hid (coverB n h L = false) := hid (by rw [hdef.out, decide_eq_true (by omega), decide_eq_false (by omega)]; rfl)
    go_enter Try.func11, Try.ntmps11
    go_wp2_with fail
    go_ret
    exact ⟨ExtX.refl _, ret_bool hv.out.symm⟩
  by_cases hh1 : h < 0
  · have hv : Hid (coverB n h L = false) := hid (by rw [hdef.out, decide_eq_false (show ¬ 0 ≤ h by omega)]; simp)
    go_enter Try.func11, Try.ntmps11
    go_wp2_with fail
    go_ret
    exact ⟨ExtX.refl _, ret_bool hv.out.symm⟩
  by_cases hh2 : n < h
  · have hv : Hid (coverB n h L = false) := hid (by rw [hdef.out, decide_eq_false (show ¬ h ≤ n by omega)]; simp)
    go_enter Try.func11, Try.ntmps11
    go_wp2_with fail
    go_ret
    exact ⟨ExtX.refl _, ret_bool hv.out.symm⟩
  by_cases hl4 : 4096 < L.length
  · have hv : Hid (coverB n h L = false) := hid (by rw [hdef.out, decide_eq_false (show ¬ L.length ≤ 4096 by omega)]; simp)
    go_enter Try.func11, Try.ntmps11
    go_wp2_with fail
    go_ret
    exact ⟨ExtX.refl _, ret_bool hv.out.symm⟩
  obtain ⟨N, rfl⟩ := Int.eq_ofNat_of_zero_le (show 0 ≤ n by omega)
  obtain ⟨H, rfl⟩ := Int.eq_ofNat_of_zero_le (show 0 ≤ h by omega)
  have hN : N ≤ 64 := by omega
  have hHN : H ≤ N := by omega
  have hdef2 : Hid (coverB N H L = ((List.range L.length).all (goodAt N H L) && decide (sumL N H L = ch N H))) := hid (by
    rw [hdef.out, decide_eq_true (by omega), decide_eq_true (by omega), decide_eq_true (by omega), decide_eq_true (by omega), decide_eq_true (by omega)]; rfl)
  clear hdef
  go_enter Try.func11, Try.ntmps11
  go_wp2_with fail
  go_loopw [7, 8, 37] (fun s7 s8 c wr => ∃ (k : Nat) (oo : Option Addr) (co : Nat) (so : Option Addr) (cs : Nat) (sl : List Nat), c = .int .i64 k ∧ s7 = .slice oo k co ∧ s8 = .slice so sl.length cs ∧ k ≤ L.length ∧
      OL (SlV (IntIn .i64) 1) 1 X w.heap.size 22 wr oo co (sidesL N (L.take k)) ∧ sl.length ≤ cs ∧ Canon sl (sumL N H (L.take k)) ∧ Sl (NatIn .u32) 1 (mk (un X oo) wr) so sl ∧ Hid (∀ j, j < k → goodAt N H L j = true) ∧ Ext w wr) (fun _ _ c _ => L.length - (intOf c).toNat)
  case atStart => exact ⟨0, none, 0, none, 0, [], rfl, rfl, rfl, Nat.zero_le _, OL.nil _ _ _ _ _ _, by simp, Canon.nil, Sl.nil _ _ _ _, fun j hj => by omega, ExtX.refl _⟩
  case round =>
    obtain ⟨k, oo, co, so, cs, sl, rfl, rfl, rfl, hk, hO, hsc, hcan, hss, hgood, hE⟩ := hrel
    have hXr : ∀ k, X k = true → k < wr.heap.size := fun k hk => Nat.lt_of_lt_of_le (hX k hk) hE.size
    have hXu := hO.unX hXr
    have hol : Hid ((sidesL N (L.take k)).length = k) := hid (by rw [sidesL_length]; simp; omega)
    have hho : Hd oo k := hol.out ▸ hO.hd
    by_cases hlt : k < L.length
    · have hs1 := hs.old LeafR.mono hE (oo := oo) (fun j hj => hO.ob_lt hj)
      have hlen := hLl.out L[k] (List.getElem_mem hlt)
      obtain ⟨I, O, hx⟩ : ∃ I O, L[k] = (I, O) := ⟨_, _, rfl⟩
      rw [hx] at hlen
      obtain ⟨hlI, hlO⟩ := hlen
      simp only at hlI hlO
      have hx' := hid hx
      clear hx
      go_wp2_with (first | (first | (with_reducible refine up_ix1 slInt (by omega) (by assumption) ?_) | (with_reducible refine up_ixn slLeaf (by omega) (by assumption) ?_) | (with_reducible refine up_ix1 slInts (by omega) (by assumption) ?_)) | ((with_reducible show wpList _ _ _ (⟨_, .load _ _, _, _, _, _⟩ :: _) _ _); refine st_loadElem stLeaf k hs1 hlt rfl (by omega) LeafR.agg ?_; rintro u hu; rw [hx'.out] at hu; obtain ⟨a1, c1, a2, c2, rfl, hc1, hc2, hs2, hs3⟩ := hu))
      have hEn : Ext wr (wr.alloc (.cells #[.slice a1 I.length c1, .slice a2 O.length c2] 26)) := (ExtX.refl wr).alloc _
      have k1 : (wr.alloc (.cells #[.slice a1 I.length c1, .slice a2 O.length c2] 26)).cell? ⟨wr.heap.size, 0, none⟩ = some (.slice a1 I.length c1) := cell_new 0 rfl
      have k2 : (wr.alloc (.cells #[.slice a1 I.length c1, .slice a2 O.length c2] 26)).cell? ⟨wr.heap.size, 1, none⟩ = some (.slice a2 O.length c2) := cell_new 1 rfl
      generalize wr.alloc (.cells #[.slice a1 I.length c1, .slice a2 O.length c2] 26) = W at hEn k1 k2 ⊢
      have hXW : ∀ k, un X oo k = true → k < W.heap.size := fun k hk => Nat.lt_of_lt_of_le (hXu k hk) hEn.size
      refine (read_any (un X oo) a1 a2 I O c1 c2 N H W (hs2.mono (IntIn.mono _) (mk_ext hEn)) (hs3.mono (IntIn.mono _) (mk_ext hEn)) hlI hlO hN hHN hXW).mono ?_
      rintro e w2 ⟨hE2, (⟨hbad, rfl⟩ | ⟨hokl, sd, cd, rfl, hcd, hsd⟩)⟩
      · have hv : Hid (coverB N H L = false) := hid (by rw [hdef2.out, all_range_false k hlt (goodAt_bad hlt hx'.out hbad)]; rfl)
        have hbad' := hid hbad
        clear hbad
        go_wp2_with fail
        go_ret
        exact ⟨(hE.trans hEn).trans hE2, ret_bool hv.out.symm⟩
      · have hokl' := hid hokl
        clear hokl
        have hE02 : Ext wr w2 := hEn.trans hE2
        have hO2 := hO.ext0 (SlV.elem (IntIn.elem .i64)) hE02
        have k1' := hE2.cell k1
        have k2' := hE2.cell k2
        have hss2 := hss.mono (NatIn.mono _) (mk_ext hE02)
        have hEw2 : Ext w w2 := hE.trans hE02
        have hobw : ob oo wr.heap.size = false := hO.ob_ge (Nat.le_refl _)
        have hXw2 : ∀ k, X k = true → k < w2.heap.size := fun k hk => Nat.lt_of_lt_of_le (hX k hk) hEw2.size
        clear hO hss hs1 hs2 hs3 hE hEn hE2 k1 k2 hE02
        go_wp2_with fail
        go_loop [52] (fun c => ∃ j : Nat, c = .int .i64 j ∧ j ≤ k ∧ Hid (∀ q, q < j → ∀ hq : q < L.length, apartL (I, O) L[q] = true)) (fun c => k - (intOf c).toNat)
        case atStart => exact ⟨0, rfl, Nat.zero_le _, fun q hq => by omega⟩
        case round =>
          obtain ⟨j, rfl, hj, hap⟩ := hrel
          by_cases hjk : j < k
          · have hjl : j < (sidesL N (L.take k)).length := by rw [hol.out]; exact hjk
            obtain ⟨a3, c3, f3, h3, s3⟩ := (hO2.sl (SlV.elem (IntIn.elem .i64))).slice j hjl
            have hjL : j < L.length := by omega
            have hgj := hid (goodAt_ok hjL (hgood.out j hjk))
            rw [sidesL_get, List.getElem_take] at f3 h3 s3
            have hap2 := hid (apartS_sides (n := N) (h := H) (x := (I, O)) (y := L[j]) hokl'.out hgj.out)
            obtain ⟨y, hy⟩ : ∃ y, L[j] = y := ⟨_, rfl⟩
            rw [hy] at f3 h3 s3
            have hy' := hid hy
            clear hy
            rw [sideL_length] at f3 h3
            have hsd2 := hsd.unX (IntIn.mono _)
            have hg0 := hid (sideL_range N I O)
            have hg1 := hid (sideL_range N y.1 y.2)
            cases hb : apartL (I, O) y
            · have hv : Hid (coverB N H L = false) := hid (by rw [hdef2.out, all_range_false k hlt (goodAt_not hlt hx'.out hjk (by rw [hy'.out]; exact hb))]; rfl)
              have hb' := hid hb
              clear hb
              go_wp2_with (first | (with_reducible refine up_ix1 slInt (by omega) (by assumption) ?_) | (with_reducible refine up_ixn slLeaf (by omega) (by assumption) ?_) | (with_reducible refine up_ix1 slInts (by omega) (by assumption) ?_))
              have hca := capart_any X sd a3 (sideL N I O) (sideL N y.1 y.2) cd c3 w2 hsd2 s3 (by rw [sideL_length]; omega) (by rw [sideL_length, sideL_length]; exact Nat.le_refl _) hg0 hg1
              rw [sideL_length, sideL_length] at hca
              refine hca.mono ?_
              rintro e w' ⟨rfl, rfl⟩
              have hval := hap2.out
              rw [hy'.out, hb'.out] at hval
              rw [hval]
              clear hca hval
              go_wp2_with fail
              go_ret
              exact ⟨hEw2, ret_bool hv.out.symm⟩
            · have hb' := hid hb
              clear hb
              go_wp2_with (first | (with_reducible refine up_ix1 slInt (by omega) (by assumption) ?_) | (with_reducible refine up_ixn slLeaf (by omega) (by assumption) ?_) | (with_reducible refine up_ix1 slInts (by omega) (by assumption) ?_))
              have hca := capart_any X sd a3 (sideL N I O) (sideL N y.1 y.2) cd c3 w2 hsd2 s3 (by rw [sideL_length]; omega) (by rw [sideL_length, sideL_length]; exact Nat.le_refl _) hg0 hg1
              rw [sideL_length, sideL_length] at hca
              refine hca.mono ?_
              rintro e w' ⟨rfl, rfl⟩
              have hval := hap2.out
              rw [hy'.out, hb'.out] at hval
              rw [hval]
              clear hca hval
              go_wp2_with fail
              go_round
              case rel => exact ⟨j + 1, by go_num, by omega, upto_succ hap.out (fun hq => by rw [hy'.out]; exact hb'.out)⟩
              case measure => simp [intOf]; omega
          · have hjk' : j = k := by omega
            subst hjk'
            have hgk := hid (goodAt_yes (N := (N : Int)) (H := (H : Int)) hlt hx'.out hokl'.out fun q hq => hap.out q hq (by omega))
            obtain ⟨hI1, hO1, hI2, hO3, hmt⟩ := leafOk_parts hokl'.out
            clear hI1 hO1 hmt
            have hst1 := hid (sidesL_take N L j hlt)
            have hst2 := hid (sumL_take N H L j hlt)
            go_wp2_with (at_builtin; refine st_append1n (l := sidesL N (L.take j)) slInts rfl (SlV.elem (IntIn.elem .i64)) hEw2.size hXw2 j hol.out rfl rfl hO2 (.slice sd N cd) (sideL N I O) rfl ⟨sd, cd, by rw [sideL_length], by rw [sideL_length]; exact hcd, hsd⟩ (by omega) (by omega) ?_; intro oo4 co4 w4 hO4 hE4 hoo4; have k14 := hE4.cellY k1' hobw; have k24 := hE4.cellY k2' hobw)
            have hEw4 := hEw2.own hO2 (Nat.le_refl _) hE4
            have hss4 := hss2.unstep (NatIn.mono _) hE4 hoo4
            have hX4 := hO4.unX (fun k hk => Nat.lt_of_lt_of_le (hXw2 k hk) hE4.size)
            refine (choose_int (un X oo4) _ _ (N - I.length - O.length) (H - I.length) w4 (by omega) (by omega) (by omega) (by omega) hX4).mono ?_
            rintro e w5 ⟨hE5, a5, c5, l5, rfl, hc5, hcan5, hs5⟩
            have hss5 := hss4.mono (NatIn.mono _) (mk_ext hE5)
            have hO5 := hO4.ext0 (SlV.elem (IntIn.elem .i64)) hE5
            have hX5 := hO5.unX (fun k hk => Nat.lt_of_lt_of_le (hXw2 k hk) (Nat.le_trans hE4.size hE5.size))
            have hls := lg_sumL (N := N) (H := H) hN (L.take j) (by simp; omega)
            have hlc := lg_ch (n := N - I.length - O.length) (k := H - I.length) (by omega)
            rw [← hcan.len] at hls
            rw [← hcan5.len] at hlc
            go_wp2_with fail
            refine (add_any (un X oo4) so a5 sl l5 cs c5 w5 hss5 hs5 hcan.1 hcan5.1 (by omega) (by omega) hsc hc5 hX5 _ _ hcan.val hcan5.val).mono ?_
            rintro e w6 ⟨hE6, a6, c6, l6, rfl, hc6, hcan6, hs6⟩
            have hO6 := hO5.ext0 (SlV.elem (IntIn.elem .i64)) hE6
            have hL1 : Hid (L[j].1 = I ∧ L[j].2 = O) := hid (by rw [hx'.out]; exact ⟨rfl, rfl⟩)
            rw [← hL1.out.1, ← hL1.out.2, ← hst1.out] at hO6
            have hcan6' : Canon l6 (sumL N H (L.take (j + 1))) := by
              rw [hst2.out, hL1.out.1, hL1.out.2]; exact hcan6
            have hgood' := hid (upto_succ hgood.out hgk.out)
            go_wp2_with fail
            go_roundw
            case rel => exact ⟨j + 1, oo4, co4, a6, c6, l6, by go_num, rfl, rfl, by omega, hO6, hc6, hcan6', hs6, hgood'.out, (hEw4.trans hE5).trans hE6⟩
            case measure => simp [intOf]; omega
    · have hke : k = L.length := by omega
      subst hke
      rw [List.take_length] at hcan
      have hall := hid (all_range_true hgood.out)
      have hls := lg_sumL (N := N) (H := H) hN L (by omega)
      rw [← hcan.len] at hls
      have hss0 := hss.unX (NatIn.mono _)
      go_wp2_with fail
      refine (choose_any X N H wr hHN hN hXr).mono ?_
      rintro e w5 ⟨hE5, a5, c5, l5, rfl, hc5, hcan5, hs5⟩
      have hlc := lg_ch (n := N) (k := H) (by omega)
      rw [← hcan5.len] at hlc
      go_wp2_with fail
      refine (compare_any X so a5 sl l5 cs c5 w5 (hss0.mono (NatIn.mono _) (mk_ext hE5)) hs5 hcan.1 hcan5.1 (by omega) (by omega) hsc hc5 _ _ hcan.val hcan5.val).mono ?_
      rintro e w6 ⟨hE6, rfl⟩
      have hv : Hid ((cmpN (sumL N H L) (ch N H) == 0) = coverB N H L) := hid (by
        rw [hdef2.out, hall.out, Bool.true_and, Bool.eq_iff_iff]
        simp [cmpN_eq])
      generalize cmpN (sumL N H L) (ch N H) = c at hv ⊢
      go_wp2_with fail
      go_ret
      exact ⟨(hE.trans hE5).trans hE6, ret_bool hv.out⟩
end Go.Proofs.Ytblifbnbjffgkaa
