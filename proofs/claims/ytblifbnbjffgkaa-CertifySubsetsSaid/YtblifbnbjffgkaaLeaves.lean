/- law42.leaves. What comes back is some short list of leaves. Conditions: small numbers. -/
import Derived.Test.YtblifbnbjffgkaaSplit
import Derived.StillTailTactics
namespace Go.Proofs.Ytblifbnbjffgkaa
open Go.RowKit Go.Rep Go.Lim

/-- A list of leaves that can be read comes back. -/
def LeavesIn (X : Nat → Bool) (tb : Nat) (w : World) (e : Ending) (w' : World) : Prop := ExtX (tbm tb) w w' ∧ TapeR X tb w' ∧ ∃ (ao : Option Addr) (L : List Leaf) (cap : Nat), e = .returned (.slice ao L.length cap) ∧ L.length ≤ cap ∧ L.length ≤ 2000000 ∧ Hid (∀ x ∈ L, x.1.length ≤ 2000 ∧ x.2.length ≤ 2000) ∧ Sl LeafR 2 (mk X w') ao L

theorem tyInts : TyI Try.prog 22 1 := let ⟨i, h, _, h2, _⟩ := info_parts slInts.info; ⟨i, h, h2⟩
theorem leaf_set0 (M : Mem) (x : Leaf) (so : Option Addr) (l : List Int) (c : Nat) (hs : Sl (IntIn .i64) 1 M so l) (hc : l.length ≤ c) : ∀ u, LeafR M u x → ∃ u', cellsL u' = (cellsL u).set 0 (.slice so l.length c) ∧ LeafR M u' (l, x.2) := by
  rintro u ⟨a1, c1, a2, c2, rfl, h1, h2, h3, h4⟩
  exact ⟨.agg #[.slice so l.length c, .slice a2 x.2.length c2], rfl, so, c, a2, c2, rfl, hc, h2, hs, h4⟩
theorem leaf_set1 (M : Mem) (x : Leaf) (so : Option Addr) (l : List Int) (c : Nat) (hs : Sl (IntIn .i64) 1 M so l) (hc : l.length ≤ c) : ∀ u, LeafR M u x → ∃ u', cellsL u' = (cellsL u).set 1 (.slice so l.length c) ∧ LeafR M u' (x.1, l) := by
  rintro u ⟨a1, c1, a2, c2, rfl, h1, h2, h3, h4⟩
  exact ⟨.agg #[.slice a1 x.1.length c1, .slice so l.length c], rfl, a1, c1, so, c, rfl, h1, hc, h3, hs⟩
theorem set_all {α : Type} {P : α → Prop} {a : List α} {i : Nat} {y : α} (h1 : Hid (∀ x ∈ a, P x)) (h2 : P y) : Hid (∀ x ∈ a.set i y, P x) := hid fun x hx => by
  rcases List.mem_or_eq_of_mem_set hx with hx | rfl
  · exact h1.out x hx
  · exact h2

theorem split_top (X : Nat → Bool) (tb : Nat) (n h : Int) (w : World) (ht : TapeR X tb w) (hX : ∀ k, X k = true → k < w.heap.size) (hn1 : 0 ≤ n) (hn2 : n ≤ 20) (hh1 : 0 ≤ h) (hh2 : h ≤ 1000) :
    Calls Try.prog 21 #[.pointer (some ⟨tb, 0, none⟩), .int .i64 n, .int .i64 h, .slice none 0 0, .slice none 0 0, .int .i64 0] w (LeavesOut X tb w 1048576 20) := by
  obtain ⟨N, rfl⟩ := Int.eq_ofNat_of_zero_le hn1
  obtain ⟨H, rfl⟩ := Int.eq_ofNat_of_zero_le hh1
  refine (split_any tb N H (by omega) (by omega) N X none none [] [] 0 0 0 w (hid (by omega)) ht hX (by simp) (by simp) (by simp) (by simp) (Sl.nil _ _ _ _) (Sl.nil _ _ _ _)).mono ?_
  rintro e w' ⟨h1, ao, L, cap, h2, h3, h4, h5, h6⟩
  exact ⟨h1, ao, L, cap, h2, h3, Nat.le_trans h4 (Nat.le_trans (Nat.pow_le_pow_right (by omega) (show N ≤ 20 by omega)) (by decide)), hid (fun x hx => ⟨by have := h5.out x hx; omega, by have := h5.out x hx; omega⟩), h6⟩

theorem leaves_any (X : Nat → Bool) (tb : Nat) (n h : Int) (w : World) (ht : TapeR X tb w) (hX : ∀ k, X k = true → k < w.heap.size) (hn1 : -1000 ≤ n) (hn2 : n ≤ 20) (hh1 : -1000 ≤ h) (hh2 : h ≤ 1000) :
    Calls Try.prog 10 #[.pointer (some ⟨tb, 0, none⟩), .int .i64 n, .int .i64 h] w (LeavesIn X tb w) := by
  have hsub := tbm_sub ht.1
  go_enter Try.func10, Try.ntmps10
  go_upto_region 1 with (fail)
  go_cut [7] (fun s wx => ∃ (ao : Option Addr) (L : List Leaf) (cap : Nat), s = .slice ao L.length cap ∧ ExtX (tbm tb) w wx ∧ L.length ≤ cap ∧ L.length ≤ 1048576 ∧ Hid (∀ x ∈ L, x.1.length ≤ 20 ∧ x.2.length ≤ 20) ∧ TapeR (un X ao) tb wx ∧ OL LeafR 2 X w.heap.size 26 wx ao cap L)
  case first =>
    go_wp2_with (first | (go_at_call 21; refine (split_top X tb _ _ w ht hX (by omega) (by omega) (by omega) (by omega)).mono ?_; rintro e w1 ⟨hE1, ao, L, cap, rfl, hr⟩))
    all_goals go_meet
    all_goals case rel => exact ⟨ao, L, cap, rfl, hE1, hr⟩
  case rest =>
    obtain ⟨ao, L, cap, rfl, hE1, hc, hl, hb, ht1, hO⟩ := hcut
    have hs1 := hO.sl LeafR.elem
    have hh := hO.hd
    have hb' : Hid (∀ x ∈ L, x.1.length ≤ 2000 ∧ x.2.length ≤ 2000) := hid fun x hx => ⟨by have := hb.out x hx; omega, by have := hb.out x hx; omega⟩
    by_cases hl0 : 0 < L.length
    · have d0 : ((L.length : Int) == 0) = false := beqF (by omega)
      go_wp2_with fail
      refine (next_any (un X ao) tb _ wc ht1 (by omega)).mono ?_
      rintro e w2 ⟨hE2, ht2, m, rfl, hm⟩
      have hml : m < L.length := by omega
      go_wp2_with fail
      refine (next_any (un X ao) tb 10 w2 ht2 (by omega)).mono ?_
      rintro e w3 ⟨hE3, ht3, m2, rfl, hm2⟩
      have hm10 : m2 < 10 := by omega
      have hE03 := (hE1.trans hE2).trans hE3
      have hO3 := (hO.ext LeafR.elem hE2 (fun k _ hk => hsub k hk) (fun _ _ h => h)).ext LeafR.elem hE3 (fun k _ hk => hsub k hk) (fun _ _ h => h)
      have hX3 : ∀ k, X k = true → k < w3.heap.size := fun k hk => Nat.lt_of_lt_of_le (hX k hk) hE03.size
      have hXu := hO3.unX hX3
      have hs3 := hO3.sl LeafR.elem
      clear hO hs1 hE1 hE2 hE3 ht1 ht2 hm hm2
      have ht3' := ht3.unX ht.1
      rcases (by omega : m2 < 5 ∨ m2 = 5 ∨ m2 = 6 ∨ m2 = 7 ∨ m2 = 8 ∨ m2 = 9) with h5 | rfl | rfl | rfl | rfl | rfl
      · go_wp2_with fail
        go_ret
        exact ⟨hE03, ht3', ao, L, cap, rfl, hc, by omega, hb', hs3⟩
      · by_cases hmi : m + 1 < L.length
        · have f1 : ∀ W, (Instr.sliceAt 23 (.slice ao L.length cap) none (some (.int .i64 (m : Int))) (some (.int .i64 (m : Int)))).run Try.prog W = .ok (.slice ao m m) W := run_slice_upto slLeaf L.length cap m .i64 .i64 (by omega)
          have f2 : ∀ W, (Instr.sliceAt 23 (.slice ao L.length cap) (some (.int .i64 ((m : Int) + 1))) none none).run Try.prog W = .ok (.slice (subAddr ao (m + 1) cap 2) (L.length - (m + 1)) (cap - (m + 1))) W := run_slice_i slLeaf L.length cap .i64 (m + 1) (by omega) hc
          have ew : IntKind.i64.wrap ((m : Int) + 1) = (m : Int) + 1 := IntWalk.i64_in _ (by omega)
          have hD : ExtX (tbm tb) w w3.drew := hE03.drew
          have hXd : ∀ k, X k = true → k < w3.drew.heap.size := hX3
          have hOd : Sl LeafR 2 (mk X w3.drew) ao L := hs3
          have htd : TapeR X tb w3.drew := ht3'
          go_wp2_with fail
          go_still_tail 8, (by kernel_rfl)
          change wpList _ _ _ _ _ w3.drew
          generalize w3.drew = w4 at hD hXd hOd htd ⊢
          clear f1 f2 ew
          have hsa := hOd.take m
          have hsb := hOd.sub (m + 1) L.length cap (by omega) hc (Nat.le_refl _)
          rw [List.take_length] at hsb
          have hm1 : (L.take m).length = m := by simp; omega
          go_wp2_with (at_builtin; refine st_appendl_full (l := L.take m) slLeaf rfl LeafR.elem hXd (L.drop (m + 1)) rfl rfl hm1.symm (by simp) (by simp; omega) (by omega) hsa hsb (by simp; omega) (by simp; omega) ?_; intro ao5 c5 w5 hO5 hE5)
          have hlen : m + (L.length - (m + 1)) = (L.take m ++ L.drop (m + 1)).length := by simp; omega
          have hbx : Hid (∀ x ∈ L.take m ++ L.drop (m + 1), x.1.length ≤ 2000 ∧ x.2.length ≤ 2000) := app_all (hid fun x hx => hb'.out x (List.mem_of_mem_take hx)) (hid fun x hx => hb'.out x (List.mem_of_mem_drop hx))
          have hcc := hO5.lenCap
          go_ret
          exact ⟨hD.trans (ExtX.of hE5), htd.ext hE5, ao5, _, c5, ret_slice hlen, hcc, by rw [← hlen]; omega, hbx, hO5.sl LeafR.elem⟩
        · have f1 : ∀ W, (Instr.sliceAt 23 (.slice ao L.length cap) none (some (.int .i64 (m : Int))) (some (.int .i64 (m : Int)))).run Try.prog W = .ok (.slice ao m m) W := run_slice_upto slLeaf L.length cap m .i64 .i64 (by omega)
          have f2 : ∀ W, (Instr.sliceAt 23 (.slice ao L.length cap) (some (.int .i64 ((m : Int) + 1))) none none).run Try.prog W = .ok (.slice (subAddr ao (m + 1) cap 2) (L.length - (m + 1)) (cap - (m + 1))) W := run_slice_i slLeaf L.length cap .i64 (m + 1) (by omega) hc
          have ew : IntKind.i64.wrap ((m : Int) + 1) = (m : Int) + 1 := IntWalk.i64_in _ (by omega)
          have hD : ExtX (tbm tb) w w3.drew := hE03.drew
          have hOd : Sl LeafR 2 (mk X w3.drew) ao L := hs3
          have htd : TapeR X tb w3.drew := ht3'
          have hmi' := hid hmi
          clear hmi
          go_wp2_with fail
          go_still_tail 8, (by kernel_rfl)
          change wpList _ _ _ _ _ w3.drew
          generalize w3.drew = w4 at hD hOd htd ⊢
          clear f1 f2 ew
          have hmi := hmi'.out
          have hsa := hOd.take m
          have hm1 : (L.take m).length = m := by simp; omega
          have hbx : Hid (∀ x ∈ L.take m, x.1.length ≤ 2000 ∧ x.2.length ≤ 2000) := hid fun x hx => hb'.out x (List.mem_of_mem_take hx)
          obtain ⟨ti, hinfo, _⟩ := info_parts slLeaf.info
          go_wp2_with (at_builtin; refine st_append_nothing slLeaf.und hinfo rfl rfl (by omega) (Nat.le_refl _) ?_)
          go_ret
          exact ⟨hD, htd, ao, L.take m, m, ret_slice hm1.symm, by rw [hm1]; exact Nat.le_refl _, by rw [hm1]; omega, hbx, hsa⟩
      · have hsR := hO3.slR LeafR.elem
        obtain ⟨x, hx⟩ : ∃ x, L[m] = x := ⟨_, rfl⟩
        have hx' := hid hx
        have hxb := hb.out x (hx ▸ List.getElem_mem hml)
        clear hx
        have hbase := hE03.size
        go_wp2_with (first | (first | (with_reducible refine up_ix1 slInt (by omega) (by assumption) ?_) | (with_reducible refine up_ixn slLeaf (by omega) (by assumption) ?_)) | ((with_reducible show wpList _ _ _ (⟨_, .load _ _, _, _, _, _⟩ :: _) _ _); refine st_loadElem stLeaf m hsR hml rfl (by omega) (fun h u y hu => LeafR.agg _ _ _ hu) ?_; rintro u hu; rw [hx'.out] at hu; obtain ⟨a1, c1, a2, c2, rfl, hc1, hc2, hs2, hs4⟩ := hu) | (at_builtin; refine st_append1 slLeaf rfl LeafR.elem hbase hX3 rfl rfl hO3 (.agg #[.slice a1 x.1.length c1, .slice a2 x.2.length c2]) x rfl ⟨a1, c1, a2, c2, rfl, hc1, hc2, hs2, hs4⟩ (by omega) (by omega) ?_; intro ao5 c5 w5 hO5 hE5 hor))
        have hcc := hO5.lenCap
        have ht5 := ht3.unstep (hO3.not_ob ht.1) hE5 hor
        have hE05 := hE03.own hO3 (Nat.le_refl _) hE5
        go_ret
        exact ⟨hE05, ht5.unX ht.1, ao5, L ++ [x], c5, ret_slice (by simp), hcc, by simp; omega, app_all hb' (hid fun y hy => by rw [List.mem_singleton.1 hy]; exact ⟨by omega, by omega⟩), hO5.sl LeafR.elem⟩
      · go_wp2_with fail
        refine (odds_any (un X ao) tb n w3 ht3 hXu (by omega) (by omega)).mono ?_
        rintro e w4 ⟨hE4, so, l, sc, rfl, hsc, hsl, ht4, hOl⟩
        have hO4 := hO3.ext LeafR.elem hE4 (fun k _ hk => hsub k hk) (fun _ _ h => h)
        have hx := hb.out L[m] (List.getElem_mem hml)
        obtain ⟨⟨v0, hcell⟩, hfro, hs5, hE5⟩ := hO4.field LeafR.elem m 0 hml (by omega) (.slice so l.length sc) (l, L[m].2) (leaf_set0 _ _ so l sc (hOl.sl (IntIn.elem _)) hsc)
        have hbx : Hid (∀ x ∈ L.set m (l, L[m].2), x.1.length ≤ 2000 ∧ x.2.length ≤ 2000) := set_all hb' ⟨by simp; omega, by simp; omega⟩
        have ht5 := ((ht4.unX (un_left ht.1)).unstep (hO4.not_ob ht.1) hE5 (.inl rfl)).unX ht.1
        have hE05 := (hE03.trans hE4).own hO4 (Nat.le_refl _) hE5
        generalize (l, L[m].2) = y at hs5 hbx
        clear hx
        go_wp2_with (first | (first | (with_reducible refine up_ix1 slInt (by omega) (by assumption) ?_) | (with_reducible refine up_ixn slLeaf (by omega) (by assumption) ?_)) | ((with_reducible show wpList _ _ _ (⟨_, .store _ _ _, _, _, _, _⟩ :: _) _ _); refine st_cell tyInts rfl rfl rfl rfl hcell hfro ?_))
        go_ret
        exact ⟨hE05, ht5, ao, L.set m y, cap, ret_slice (by simp), by simpa using hc, by simp; omega, hbx, hs5⟩
      · go_wp2_with fail
        refine (odds_any (un X ao) tb n w3 ht3 hXu (by omega) (by omega)).mono ?_
        rintro e w4 ⟨hE4, so, l, sc, rfl, hsc, hsl, ht4, hOl⟩
        have hO4 := hO3.ext LeafR.elem hE4 (fun k _ hk => hsub k hk) (fun _ _ h => h)
        have hx := hb.out L[m] (List.getElem_mem hml)
        obtain ⟨⟨v0, hcell⟩, hfro, hs5, hE5⟩ := hO4.field LeafR.elem m 1 hml (by omega) (.slice so l.length sc) (L[m].1, l) (leaf_set1 _ _ so l sc (hOl.sl (IntIn.elem _)) hsc)
        have hbx : Hid (∀ x ∈ L.set m (L[m].1, l), x.1.length ≤ 2000 ∧ x.2.length ≤ 2000) := set_all hb' ⟨by simp; omega, by simp; omega⟩
        have ht5 := ((ht4.unX (un_left ht.1)).unstep (hO4.not_ob ht.1) hE5 (.inl rfl)).unX ht.1
        have hE05 := (hE03.trans hE4).own hO4 (Nat.le_refl _) hE5
        generalize (L[m].1, l) = y at hs5 hbx
        clear hx
        go_wp2_with (first | (first | (with_reducible refine up_ix1 slInt (by omega) (by assumption) ?_) | (with_reducible refine up_ixn slLeaf (by omega) (by assumption) ?_)) | ((with_reducible show wpList _ _ _ (⟨_, .store _ _ _, _, _, _, _⟩ :: _) _ _); refine st_cell tyInts rfl rfl rfl rfl hcell hfro ?_))
        go_ret
        exact ⟨hE05, ht5, ao, L.set m y, cap, ret_slice (by simp), by simpa using hc, by simp; omega, hbx, hs5⟩
      · have hx := hb.out L[m] (List.getElem_mem hml)
        obtain ⟨⟨v0, hcell⟩, hfro, hs5, hE5⟩ := hO3.field LeafR.elem m 0 hml (by omega) (.slice none 0 0) ([], L[m].2) (leaf_set0 _ _ none [] 0 (Sl.nil _ _ _ _) (by simp))
        have hbx : Hid (∀ x ∈ L.set m ([], L[m].2), x.1.length ≤ 2000 ∧ x.2.length ≤ 2000) := set_all hb' ⟨by simp, by simp; omega⟩
        have ht5 := (ht3.unstep (hO3.not_ob ht.1) hE5 (.inl rfl)).unX ht.1
        have hE05 := hE03.own hO3 (Nat.le_refl _) hE5
        generalize (([] : List Int), L[m].2) = y at hs5 hbx
        clear hx
        go_wp2_with (first | (first | (with_reducible refine up_ix1 slInt (by omega) (by assumption) ?_) | (with_reducible refine up_ixn slLeaf (by omega) (by assumption) ?_)) | ((with_reducible show wpList _ _ _ (⟨_, .store _ _ _, _, _, _, _⟩ :: _) _ _); refine st_cell tyInts rfl rfl rfl rfl hcell hfro ?_))
        go_ret
        exact ⟨hE05, ht5, ao, L.set m y, cap, ret_slice (by simp), by simpa using hc, by simp; omega, hbx, hs5⟩
    · have d0 : ((L.length : Int) == 0) = true := beqT (by omega)
      go_wp2_with fail
      go_ret
      exact ⟨hE1, ht1.unX ht.1, ao, L, cap, rfl, hc, by omega, hb', hs1⟩
end Go.Proofs.Ytblifbnbjffgkaa
