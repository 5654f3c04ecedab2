/- ref23.Combos: all ascending lists, in order. Conditions: 0 ≤ h ≤ n ≤ 64, not too many. -/
import Derived.Test.YtblifbnbjffgkaaCopy
import Derived.Test.YtblifbnbjffgkaaCombL
import Derived.Test.YtblifbnbjffgkaaFacts
import Derived.IntWalk
namespace Go.Proofs.Ytblifbnbjffgkaa
open Go.RowKit Go.Rep Go.Lim

theorem slInts1 : SliceT Try.prog 33 22 1 24 (.slice none 0 0) := ⟨Try.underlying33, by kernel_rfl⟩

/-- All lists come back. -/
def CombosOut (X : Nat → Bool) (w : World) (N H : Nat) (e : Ending) (w' : World) : Prop := Ext w w' ∧ ∃ (oo : Option Addr) (co : Nat), e = .returned (.slice oo (combs N H 0).length co) ∧ (combs N H 0).length ≤ co ∧ OL (SlV (IntIn .i64) 1) 1 X w.heap.size 22 w' oo co (combs N H 0)

/-- The list on the way from one to the next. -/
def mid (L : List Int) (H p j : Nat) : List Int := (List.range H).map fun q => if q < p then L.getD q 0 else if q < j then L.getD p 0 + 1 + ((q : Int) - p) else L.getD q 0

theorem three_un {X : Nat → Bool} {lo oo a3 : Option Addr} {n : Nat} (h1 : ∀ k, ob a3 k = true → un X oo k = false) (h2 : ∀ k, ob a3 k = true → n ≤ k) (h3 : ∀ k, ob lo k = true → k < n) : ∀ k, ob a3 k = true → un (un X lo) oo k = false := fun k hk => by
  obtain ⟨h4, h5⟩ := un_false (h1 k hk)
  have h6 : ob lo k = false := by
    cases hh : ob lo k
    · rfl
    · have := h2 k hk; have := h3 k hh; omega
  simp [un, h4, h5, h6]

theorem mid_length (L : List Int) (H p j : Nat) : (mid L H p j).length = H := by simp [mid]
theorem mid_get (L : List Int) (H p j q : Nat) (hq : q < (mid L H p j).length) : (mid L H p j)[q] = if q < p then L.getD q 0 else if q < j then L.getD p 0 + 1 + ((q : Int) - p) else L.getD q 0 := by simp [mid]
theorem getD_of {L : List Int} {q : Nat} {x : Int} (hq : q < L.length) (h : L[q] = x) : L.getD q 0 = x := by simp [List.getD, hq, h]
theorem mid_first {L : List Int} {H p : Nat} {x : Int} (hl : L.length = H) (hp : p < L.length) (hx : L[p] = x) : L.set p (x + 1) = mid L H p (p + 1) := by
  apply List.ext_getElem
  · rw [mid_length, List.length_set, hl]
  · intro q h1 h2
    rw [mid_get, List.getElem_set]
    have hq : q < L.length := by simpa using h1
    by_cases h3 : p = q
    · subst h3; rw [if_pos rfl, if_neg (by omega), if_pos (by omega), getD_of hp hx]; omega
    · rw [if_neg h3]
      by_cases h4 : q < p
      · rw [if_pos h4, getD_of hq rfl]
      · rw [if_neg h4, if_neg (by omega), getD_of hq rfl]
theorem mid_next {L : List Int} {H p j : Nat} {y : Int} (hpj : p < j) (hj : j < H) (hy : (mid L H p j)[j - 1]'(by rw [mid_length]; omega) = y) : (mid L H p j).set j (y + 1) = mid L H p (j + 1) := by
  apply List.ext_getElem
  · rw [mid_length, List.length_set, mid_length]
  · intro q h1 h2
    rw [mid_get] at hy
    rw [if_neg (by omega), if_pos (by omega)] at hy
    rw [mid_get, List.getElem_set]
    by_cases h3 : j = q
    · subst h3; rw [if_pos rfl, if_neg (by omega), if_pos (by omega), ← hy]; omega
    · rw [if_neg h3, mid_get]
      by_cases h4 : q < p
      · rw [if_pos h4, if_pos h4]
      · rw [if_neg h4, if_neg h4]
        by_cases h5 : q < j
        · rw [if_pos h5, if_pos (by omega)]
        · rw [if_neg h5, if_neg (by omega)]
theorem mid_last {L : List Int} {H p : Nat} (hl : L.length = H) (hp : p < L.length) : mid L H p H = L.take p ++ up (L[p] + 1) (L.length - p) := by
  apply List.ext_getElem
  · rw [mid_length, List.length_append, List.length_take, up_length]; omega
  · intro q h1 h2
    rw [mid_length] at h1
    rw [mid_get, List.getElem_append]
    by_cases h4 : q < p
    · rw [if_pos h4, dif_pos (by simp; omega), List.getElem_take, getD_of (by omega) rfl]
    · rw [if_neg h4, if_pos h1, dif_neg (by simp; omega), up_get, getD_of hp rfl]
      simp only [List.length_take]; omega

theorem combos_any (X : Nat → Bool) (N H : Nat) (w : World) (hN : N ≤ 64) (hH : H ≤ N) (hch : ch N H ≤ 1000000) (hX : ∀ k, X k = true → k < w.heap.size) :
    Calls Try.prog 13 #[.int .i64 (N : Int), .int .i64 (H : Int)] w (CombosOut X w N H) := by
  have hfirst := hid (combs_first N H 0)
  go_enter Try.func13, Try.ntmps13
  go_wp2_with (at_make; refine st_make slInt (IntIn.elem .i64) 0 (fun _ => rfl) X hX w.heap.size (Nat.le_refl _) H rfl rfl rfl (by omega) (by omega) ?_; intro lo w1 hL1 hE1)
  go_loopw [6, 21] (fun s c wr => ∃ (k : Nat) (L : List Int), c = .int .i64 k ∧ k ≤ H ∧ L.length = H ∧ Hid (∀ q (hq : q < L.length), q < k → L[q] = q) ∧ OL (IntIn .i64) 1 X w.heap.size 3 wr lo H L ∧ Ext w wr) (fun _ c _ => H - (intOf c).toNat)
  case atStart => exact ⟨0, List.replicate H 0, rfl, Nat.zero_le _, by simp, hid (fun q hq h0 => by omega), hL1, hE1⟩
  case round =>
    obtain ⟨k, L, rfl, hk, hLl, hq, hL, hE⟩ := hrel
    have hhl : Hd lo H := hLl ▸ hL.hd
    by_cases hlt : k < H
    · go_wp2_with (first | (with_reducible refine up_ix1 slInt (by omega) (by assumption) ?_) | ((with_reducible show wpList _ _ _ (⟨_, .store _ _ _, _, _, _, _⟩ :: _) _ _); refine st_storeInt tyInt k (k : Int) rfl rfl hL (by omega) rfl rfl ?_; intro w2 hL2 hE2))
      have hE3 := hE.own hL (Nat.le_refl _) hE2
      have hq2 : Hid (∀ q (hq : q < (L.set k (k : Int)).length), q < k + 1 → (L.set k (k : Int))[q] = q) := hid (fun q hq1 hqk => by
        by_cases hqk' : k = q
        · subst hqk'; simp
        · rw [List.getElem_set_ne hqk']; exact hq.out q _ (by omega))
      go_roundw
      case rel => exact ⟨k + 1, L.set k (k : Int), by go_num, by omega, by simpa using hLl, hq2, hL2, hE3⟩
      case measure => simp [intOf]; omega
    · have hup : Hid ((combs N H 0)[0]? = some L) := hid (by
        have hup : L = up 0 H := by
          apply List.ext_getElem
          · rw [up_length, hLl]
          · intro i h1 h2
            rw [hq.out i h1 (by omega), up_get]; omega
        rw [hup]; have := hfirst.out; rw [if_pos hH] at this; exact this)
      have hXr : ∀ k, X k = true → k < wr.heap.size := fun k hk => Nat.lt_of_lt_of_le (hX k hk) hE.size
      have hXl := hL.unX hXr
      clear hq hfirst hE1 hL1
      go_wp2_with (at_builtin; refine st_copy slInt rfl (IntIn.elem .i64) hXr L rfl rfl hLl.symm (hL.sl (IntIn.elem .i64)) (by omega) (by omega) ?_; intro a2 c2 w2 hC hE2)
      have hC2 : Sl (IntIn .i64) 1 (mk (un X lo) w2) a2 L := hC.rehide (IntIn.elem .i64) (fun _ _ _ _ h => h) (fun k hk => by
        have h1 : X k = false := hC.1 k hk
        have h2 := (hC.block hk).1
        have h3 : ob lo k = false := hL.ob_ge h2
        simp [un, h1, h3])
      have hXl2 : ∀ k, un X lo k = true → k < w2.heap.size := fun k hk => Nat.lt_of_lt_of_le (hXl k hk) hE2.size
      have hw2 : w.heap.size ≤ w2.heap.size := Nat.le_trans hE.size hE2.size
      have hO : OL (SlV (IntIn .i64) 1) 1 (un X lo) w.heap.size 22 (w2.alloc (.cells #[.slice a2 H c2] 22)) (some ⟨w2.heap.size, 0, none⟩) 1 [L] :=
        OL.lit (SlV.elem (IntIn.elem .i64)) hXl2 hw2 [.slice a2 H c2] [L] _ (by simp [cellsL, Value.cells]) rfl
          (fun i hi _ => by match i, hi with
                            | 0, _ => exact ⟨a2, c2, by rw [← hLl]; rfl, hC.lenCap, hC2⟩) (by simp)
      have hL2 : OL (IntIn .i64) 1 (un X (some ⟨w2.heap.size, 0, none⟩)) w.heap.size 3 (w2.alloc (.cells #[.slice a2 H c2] 22)) lo H L :=
        (hL.ext0 (IntIn.elem .i64) hE2).ext (IntIn.elem .i64) (Y := noY) ((ExtX.refl _).alloc _) (fun k _ hk => by simp [noY] at hk) (fun k hk hz => by
          by_cases hx : X k = true
          · exact hx
          · have : w2.heap.size = k := by simpa [un, hx, ob] using hz
            omega)
      have hE4 : Ext w (w2.alloc (.cells #[.slice a2 H c2] 22)) := (hE.trans hE2).alloc _
      have hlen := hid (combs_length N H 0)
      have hO' : OL (SlV (IntIn .i64) 1) 1 (un X lo) w.heap.size 22 (w2.alloc (.cells #[.slice a2 H c2] 22)) (some ⟨w2.heap.size, 0, none⟩) 1 ((combs N H 0).take 1) := by
        have h0 := hup.out
        rw [List.getElem?_eq_some_iff] at h0
        obtain ⟨h1, h2⟩ := h0
        rw [List.take_succ_eq_append_getElem h1, h2]
        exact hO
      clear hO hC hC2 hL hE hE2
      go_loopw [7] (fun s wr => ∃ (k : Nat) (L : List Int) (oo : Option Addr) (co : Nat), s = .slice oo (k + 1) co ∧ L.length = H ∧ Hid ((combs N H 0)[k]? = some L) ∧ OL (SlV (IntIn .i64) 1) 1 (un X lo) w.heap.size 22 wr oo co ((combs N H 0).take (k + 1)) ∧ OL (IntIn .i64) 1 (un X oo) w.heap.size 3 wr lo H L ∧ Ext w wr) (fun s _ => (combs N H 0).length - lenOf s)
      case atStart => exact ⟨0, L, _, _, rfl, hLl, hup, hO', hL2, hE4⟩
      case round =>
        obtain ⟨k2, M, oo, co, rfl, hMl, hM, hOO, hMM, hEE⟩ := hrel
        clear hO' hL2 hE4 hup hLl
        clear L
        have hhl : Hd lo H := hMl ▸ hMM.hd
        go_wp2_with fail
        go_loop [8] (fun c => ∃ (i : Int), c = .int .i64 i ∧ -1 ≤ i ∧ i < H ∧ Hid (∀ q (hq : q < M.length), i < q → M[q] = (N : Int) - H + q)) (fun c => ((intOf c) + 1).toNat)
        case atStart => exact ⟨(H : Int) - 1, rfl, by omega, by omega, hid (fun q hq h0 => by omega)⟩
        case round =>
          obtain ⟨i, rfl, hi1, hi2, hq⟩ := hrel
          by_cases hi0 : 0 ≤ i
          · obtain ⟨p, rfl⟩ := Int.eq_ofNat_of_zero_le hi0
            have hp : p < M.length := by omega
            have c1 := hMM.sl (IntIn.elem .i64) |>.int p hp
            obtain ⟨x, hx⟩ : ∃ x, M[p] = x := ⟨_, rfl⟩
            rw [hx] at c1
            have hx' := hid hx
            clear hx
            by_cases hxe : x = (N : Int) - H + p
            · have hq2 : Hid (∀ q (hq : q < M.length), (p : Int) - 1 < q → M[q] = (N : Int) - H + q) := hid (fun q hq1 hqp => by
                by_cases hqe : q = p
                · subst hqe; rw [hx'.out]; exact hxe
                · exact hq.out q hq1 (by omega))
              go_wp2_with (with_reducible refine up_ix1 slInt (by omega) (by assumption) ?_)
              go_round
              case rel => exact ⟨(p : Int) - 1, rfl, by omega, by omega, hq2⟩
              case measure => simp [intOf]
            · have hmem : M ∈ combs N H 0 := by
                have := hM.out
                rw [List.getElem?_eq_some_iff] at this
                obtain ⟨h1, h2⟩ := this
                rw [← h2]; exact List.getElem_mem h1
              have hxb : 0 ≤ x ∧ x < (N : Int) - H + p := by
                have h1 := (combs_mem N H 0 M hmem).2.1 x (hx'.out ▸ List.getElem_mem hp)
                have h2 := combs_top N H 0 M hmem p hp
                rw [hx'.out] at h2
                omega
              have hnx : Hid ((combs N H 0)[k2 + 1]? = some (mid M H p H)) := hid (by
                have h0 := hM.out
                rw [List.getElem?_eq_some_iff] at h0
                obtain ⟨h1, h2⟩ := h0
                rw [← nxt_combs N H 0 k2 h1, h2, mid_last hMl hp]
                have h3 := nxt_some (0 + (N : Int)) M p hp (by rw [hx'.out, hMl]; omega) (fun q hq1 hqp => by rw [hq.out q hq1 (by omega), hMl]; omega)
                exact h3)
              have hset := hid (mid_first hMl hp hx'.out)
              clear hmem hq
              go_wp2_with (first | (with_reducible refine up_ix1 slInt (by omega) (by assumption) ?_) | ((with_reducible show wpList _ _ _ (⟨_, .store _ _ _, _, _, _, _⟩ :: _) _ _); refine st_storeInt tyInt p (x + 1) rfl rfl hMM hp rfl rfl ?_; intro w3 hM3 hE3))
              have hO3 := hOO.ext (SlV.elem (IntIn.elem .i64)) hE3 (fun k _ hk => un_right hk) (fun _ _ h => h)
              have hE4 := hEE.own hMM (Nat.le_refl _) hE3
              rw [hset.out] at hM3
              clear hOO hMM hEE hE3 c1
              go_loopw [9] (fun c wr => ∃ (j : Nat), c = .int .i64 j ∧ p < j ∧ j ≤ H ∧ OL (SlV (IntIn .i64) 1) 1 (un X lo) w.heap.size 22 wr oo co ((combs N H 0).take (k2 + 1)) ∧ OL (IntIn .i64) 1 (un X oo) w.heap.size 3 wr lo H (mid M H p j) ∧ Ext w wr) (fun c _ => H - (intOf c).toNat)
              case atStart => exact ⟨p + 1, by go_num, by omega, by omega, hO3, hM3, hE4⟩
              case round =>
                obtain ⟨j, rfl, hpj, hjH, hO5, hM5, hE5⟩ := hrel
                clear hO3 hM3 hE4
                by_cases hj : j < H
                · have hj1 : j - 1 < (mid M H p j).length := by rw [mid_length]; omega
                  have hj2 : j < (mid M H p j).length := by rw [mid_length]; exact hj
                  have c2 := hM5.sl (IntIn.elem .i64) |>.int (j - 1) hj1
                  obtain ⟨y, hy⟩ : ∃ y, (mid M H p j)[j - 1] = y := ⟨_, rfl⟩
                  have hyb : 0 ≤ y ∧ y ≤ 1000 := by
                    rw [mid_get, if_neg (by omega), if_pos (by omega), getD_of hp hx'.out] at hy
                    omega
                  rw [hy] at c2
                  have hnext := hid (mid_next hpj hj hy)
                  clear hy
                  obtain ⟨j', rfl⟩ : ∃ j', j = j' + 1 := ⟨j - 1, by omega⟩
                  simp only [Nat.add_sub_cancel] at c2
                  go_wp2_with (first | (with_reducible refine up_ix1 slInt (by omega) (by assumption) ?_) | ((with_reducible show wpList _ _ _ (⟨_, .store _ _ _, _, _, _, _⟩ :: _) _ _); refine st_storeInt tyInt (j' + 1) (y + 1) rfl rfl hM5 hj2 rfl rfl ?_; intro w6 hM6 hE6))
                  have hO6 := hO5.ext (SlV.elem (IntIn.elem .i64)) hE6 (fun k _ hk => un_right hk) (fun _ _ h => h)
                  have hE7 := hE5.own hM5 (Nat.le_refl _) hE6
                  rw [hnext.out] at hM6
                  go_roundw
                  case rel => exact ⟨j' + 1 + 1, by go_num, by omega, by omega, hO6, hM6, hE7⟩
                  case measure => simp [intOf]; omega
                · have hje : j = H := by omega
                  rw [hje] at hM5
                  obtain ⟨T, hT⟩ : ∃ T, mid M H p H = T := ⟨_, rfl⟩
                  have hTl : T.length = H := by rw [← hT, mid_length]
                  rw [hT] at hM5 hnx
                  have hX5 : ∀ k, X k = true → k < wr.heap.size := fun k hk => Nat.lt_of_lt_of_le (hX k hk) hE5.size
                  have hbl : ∀ k, ob lo k = true → w.heap.size ≤ k ∧ k < wr.heap.size := fun k hk => hM5.block hk
                  have hbo : ∀ k, ob oo k = true → w.heap.size ≤ k ∧ k < wr.heap.size := fun k hk => hO5.block hk
                  have hXo5 : ∀ k, un X oo k = true → k < wr.heap.size := fun k hk => by
                    by_cases hx : X k = true
                    · exact hX5 k hx
                    · exact (hbo k (by simpa [un, hx] using hk)).2
                  have hXl5 : ∀ k, un X lo k = true → k < wr.heap.size := fun k hk => by
                    by_cases hx : X k = true
                    · exact hX5 k hx
                    · exact (hbl k (by simpa [un, hx] using hk)).2
                  have hklen : k2 + 1 < (combs N H 0).length := (List.getElem?_eq_some_iff.1 hnx.out).1
                  have hkch : k2 + 1 < ch N H := by rw [← hlen.out]; exact hklen
                  have htake : ((combs N H 0).take (k2 + 1)).length = k2 + 1 := by simp; omega
                  have htake2 : Hid ((combs N H 0).take (k2 + 1) ++ [T] = (combs N H 0).take (k2 + 1 + 1)) := hid (by
                    obtain ⟨h1, h2⟩ := List.getElem?_eq_some_iff.1 hnx.out
                    rw [List.take_succ_eq_append_getElem h1, h2])
                  have hklen' := hid hklen
                  have htake' := hid htake
                  clear hklen htake
                  clear hXl hXl2 hXr
                  clear hset hX5
                  go_wp2_with (first | (at_builtin; refine st_copy slInt rfl (IntIn.elem .i64) hXo5 T rfl rfl hTl.symm (hM5.sl (IntIn.elem .i64)) (by omega) (by omega) ?_; intro a3 c3 w6 hC hE6; have hO6 := hO5.ext0 (SlV.elem (IntIn.elem .i64)) hE6; have hXl6 : ∀ k, un X lo k = true → k < w6.heap.size := fun k hk => Nat.lt_of_lt_of_le (hXl5 k hk) hE6.size; have hb6 : w.heap.size ≤ w6.heap.size := Nat.le_trans hE5.size hE6.size; have hC3 : Sl (IntIn .i64) 1 (mk (un (un X lo) oo) w6) a3 T := hC.rehide (IntIn.elem .i64) (fun _ _ _ _ h => h) (three_un hC.1 (fun k hk => (hC.block hk).1) (fun k hk => (hbl k hk).2))) | (at_builtin; refine st_append1n slInts1 rfl (SlV.elem (IntIn.elem .i64)) hb6 hXl6 (k2 + 1) htake'.out rfl rfl hO6 (.slice a3 H c3) T rfl ⟨a3, c3, by rw [hTl], hC.lenCap, hC3⟩ (by omega) (by omega) ?_; intro oo7 co7 w7 hO7 hE7 hor))
                  have hM7 := (hM5.ext0 (IntIn.elem .i64) hE6).beside (IntIn.elem .i64) hE7 hor
                  have hE8 := (hE5.trans hE6).own hO6 (Nat.le_refl _) hE7
                  rw [htake2.out] at hO7
                  go_roundw
                  case rel => exact ⟨k2 + 1, T, oo7, co7, rfl, hTl, hnx, hO7, hM7, hE8⟩
                  case measure =>
                    have := hklen'.out
                    simp [lenOf]; omega
          · have hall : Hid ((combs N H 0).length ≤ k2 + 1) := hid (by
              have h0 := hM.out
              rw [List.getElem?_eq_some_iff] at h0
              obtain ⟨h1, h2⟩ := h0
              have h3 := nxt_combs N H 0 k2 h1
              rw [h2, nxt_none (0 + (N : Int)) M (fun q hq1 => by rw [hq.out q hq1 (by omega), hMl]; omega)] at h3
              exact List.getElem?_eq_none_iff.1 h3.symm)
            have hk3 : (combs N H 0).length = k2 + 1 := by
              have h1 := (List.getElem?_eq_some_iff.1 hM.out).1
              have h2 := hall.out
              omega
            have hO9 := hOO.ext (SlV.elem (IntIn.elem .i64)) (ExtX.refl (Y := noY) wr) (fun k _ hk => by simp [noY] at hk) (Z := X) (fun k _ hk => un_left hk)
            rw [List.take_of_length_le hall.out] at hO9
            have hk3' := hid hk3
            clear hk3
            have hcc := hO9.lenCap
            go_wp2_with fail
            go_ret
            exact ⟨hEE, oo, co, ret_slice hk3'.out.symm, hcc, hO9⟩
end Go.Proofs.Ytblifbnbjffgkaa
