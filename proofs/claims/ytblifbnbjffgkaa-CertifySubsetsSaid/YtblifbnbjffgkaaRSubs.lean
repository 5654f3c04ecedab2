/- ref42.Subsets. Conditions: none. -/
import Derived.Test.YtblifbnbjffgkaaCombos
import Derived.Test.YtblifbnbjffgkaaSub1
import Derived.Test.YtblifbnbjffgkaaOthers
import Derived.Test.YtblifbnbjffgkaaAwake
namespace Go.Lim
/-- The leaves of all subsets. -/
def leavesL (N H : Nat) : List Leaf := (combs N H 0).map fun s => (s, othersL s N)
/-- The error: 0, 1 or 2. -/
def subsE (n h : Int) : Int := if n < 1 ∨ 64 < n ∨ h < 0 ∨ n < h then 1 else if 4096 < ch n.toNat h.toNat then 2 else 0
def subsL (n h : Int) : List Leaf := if subsE n h = 0 then leavesL n.toNat h.toNat else []
theorem subsE_range {n h : Int} (hb : n < 1 ∨ 64 < n ∨ h < 0 ∨ n < h) : subsE n h = 1 ∧ subsL n h = [] := by
  have h1 : subsE n h = 1 := by unfold subsE; rw [if_pos hb]
  exact ⟨h1, by unfold subsL; rw [h1]; rfl⟩
theorem subsE_limit {N H : Nat} (h1 : 1 ≤ N) (h2 : N ≤ 64) (h3 : H ≤ N) (h4 : 4096 < ch N H) : subsE N H = 2 ∧ subsL N H = [] := by
  have h1 : subsE N H = 2 := by unfold subsE; rw [if_neg (by omega), if_pos (by simpa using h4)]
  exact ⟨h1, by unfold subsL; rw [h1]; rfl⟩
theorem subsE_ok {N H : Nat} (h1 : 1 ≤ N) (h2 : N ≤ 64) (h3 : H ≤ N) (h4 : ch N H ≤ 4096) : subsE N H = 0 ∧ subsL N H = leavesL N H := by
  have h1 : subsE N H = 0 := by unfold subsE; rw [if_neg (by omega), if_neg (by simp; omega)]
  exact ⟨h1, by unfold subsL; rw [h1]; rfl⟩
theorem leavesL_take {N H : Nat} (k : Nat) (hk : k < (combs N H 0).length) : ((combs N H 0).map fun s => (s, othersL s N)).take (k + 1) = ((combs N H 0).map fun s => (s, othersL s N)).take k ++ [((combs N H 0)[k], othersL (combs N H 0)[k] N)] := by
  rw [List.take_succ_eq_append_getElem (by simpa using hk), List.getElem_map]
end Go.Lim
namespace Go.Proofs.Ytblifbnbjffgkaa
open Go.RowKit Go.Rep Go.Lim

/-- The leaves and the error come back. -/
def SubsOut (X : Nat → Bool) (w : World) (n h : Int) (e : Ending) (w' : World) : Prop := Ext w w' ∧ ∃ (ao : Option Addr) (c : Nat), e = .returned (.tuple #[.slice ao (subsL n h).length c, .int .i64 (subsE n h)]) ∧ (subsL n h).length ≤ c ∧ Sl LeafR 2 (mk X w') ao (subsL n h)
theorem SubsOut.nil {X : Nat → Bool} {w w' : World} {n h v : Int} {e : Ending} (hE : Ext w w') (hs : subsE n h = v ∧ subsL n h = []) (he : e = .returned (.tuple #[.slice none 0 0, .int .i64 v])) : SubsOut X w n h e w' := by
  refine ⟨hE, none, 0, ?_, ?_, ?_⟩
  · rw [hs.1, hs.2]; exact he
  · rw [hs.2]; exact Nat.le_refl _
  · rw [hs.2]; exact Sl.nil _ _ _ _

theorem rsubs_any (X : Nat → Bool) (n h : Int) (w : World) (hX : ∀ k, X k = true → k < w.heap.size) :
    Calls Try.prog 18 #[.int .i64 n, .int .i64 h] w (SubsOut X w n h) := by
  by_cases hb : n < 1 ∨ 64 < n ∨ h < 0 ∨ n < h
  · have hs := subsE_range hb
    have hs' := hid hs
    clear hs
    rcases (by omega : n < 1 ∨ (1 ≤ n ∧ 64 < n) ∨ (1 ≤ n ∧ n ≤ 64 ∧ h < 0) ∨ (1 ≤ n ∧ n ≤ 64 ∧ 0 ≤ h ∧ n < h)) with hc | hc | hc | hc
    all_goals
      clear hb
      go_enter Try.func18, Try.ntmps18
      go_wp2_with fail
      go_ret2
      exact SubsOut.nil (ExtX.refl _) hs'.out rfl
  obtain ⟨N, rfl⟩ := Int.eq_ofNat_of_zero_le (show 0 ≤ n by omega)
  obtain ⟨H, rfl⟩ := Int.eq_ofNat_of_zero_le (show 0 ≤ h by omega)
  have h1 : 1 ≤ N := by omega
  have h2 : N ≤ 64 := by omega
  have h3 : H ≤ N := by omega
  clear hb
  go_enter Try.func18, Try.ntmps18
  go_wp2_with fail
  refine (rpchoose_any X N H 4097 4096 w h3 h2 (by omega) (by omega) rfl hX).mono ?_
  rintro e w1 ⟨hE1, rfl⟩
  by_cases h4 : 4096 < ch N H
  · have hs := hid (subsE_limit h1 h2 h3 h4)
    have hm : min (ch N H) 4097 = 4097 := by omega
    rw [hm]
    clear hm
    go_wp2_with fail
    go_ret2
    exact SubsOut.nil hE1 hs.out rfl
  · have hs := hid (subsE_ok h1 h2 h3 (by omega))
    have hm : min (ch N H) 4097 = ch N H := by omega
    rw [hm]
    have hX1 : ∀ k, X k = true → k < w1.heap.size := fun k hk => Nat.lt_of_lt_of_le (hX k hk) hE1.size
    have hcc : ch N H ≤ 1000000 := by omega
    clear hm
    go_wp2_with fail
    refine (combos_any X N H w1 h2 h3 hcc hX1).mono ?_
    rintro e w7 ⟨hE7, co, cc, rfl, hccc, hC⟩
    have hsc := hC.sl (SlV.elem (IntIn.elem .i64))
    have hhc := hsc.hd
    have hmem := hid (combs_mem N H 0)
    have hclen : (combs N H 0).length ≤ 4096 := by rw [combs_length]; omega
    have hX7 : ∀ k, X k = true → k < w7.heap.size := fun k hk => Nat.lt_of_lt_of_le (hX1 k hk) hE7.size
    have hE07 := hE1.trans hE7
    have hLdef : Hid (leavesL N H = (combs N H 0).map fun s => (s, othersL s N)) := hid rfl
    obtain ⟨C, hCC⟩ : ∃ C, combs N H 0 = C := ⟨_, rfl⟩
    rw [hCC] at hccc hsc hhc hmem hclen hLdef ⊢
    clear hC hCC hE1 hE7 hX1
    go_wp2_with fail
    go_loopw [6, 34] (fun o c wr => ∃ (k : Nat) (oo : Option Addr) (cq : Nat), c = .int .i64 k ∧ k ≤ C.length ∧ o = .slice oo k cq ∧ OL LeafR 2 X w7.heap.size 26 wr oo cq ((C.map fun s => (s, othersL s N)).take k) ∧ Ext w7 wr) (fun _ c _ => C.length - (intOf c).toNat)
    case atStart => exact ⟨0, none, 0, rfl, Nat.zero_le _, rfl, OL.nil _ _ _ _ _ _, ExtX.refl _⟩
    case round =>
      obtain ⟨k, oo, cq, rfl, hk, rfl, hO, hE⟩ := hrel
      have hXr : ∀ k, X k = true → k < wr.heap.size := fun k hk => Nat.lt_of_lt_of_le (hX7 k hk) hE.size
      have hXu := hO.unX hXr
      by_cases hlt : k < C.length
      · obtain ⟨so, sc, f37, h3', s3⟩ := hsc.slice k hlt
        have f3 := hE.cell f37
        have hml := hid (hmem.out C[k] (List.getElem_mem hlt))
        have htk : Hid (((C.map fun s => (s, othersL s N)).take k) ++ [(C[k], othersL C[k] N)] = (C.map fun s => (s, othersL s N)).take (k + 1)) := hid (by rw [List.take_succ_eq_append_getElem (by simpa using hlt), List.getElem_map])
        have s4 : Sl (IntIn .i64) 1 (mk (un X oo) wr) so C[k] := s3.oldY (IntIn.mono _) hE (fun k hk => by simp [noY] at hk) (fun j hj => hO.ob_lt hj)
        obtain ⟨s, hs'⟩ : ∃ s, C[k] = s := ⟨_, rfl⟩
        rw [hs'] at hml f3 h3' s4 htk
        have hsl : s.length ≤ 64 := by have := hml.out.1; omega
        clear hs' f37 s3
        obtain ⟨wo, rfl⟩ : ∃ wo : World, wo = wr := ⟨_, rfl⟩
        go_wp2_with (with_reducible refine up_ix1 slInts1 (by omega) (by assumption) ?_)
        go_loopw [9, 10] (fun o c wr => ∃ (j : Nat) (ro : Option Addr) (rc : Nat) (l : List Int), c = .int .i64 j ∧ j ≤ N ∧ o = .slice ro l.length rc ∧ l.length ≤ j ∧ Hid (l = othersL s j) ∧ OL (IntIn .i64) 1 (un X oo) wo.heap.size 3 wr ro rc l ∧ Ext wo wr) (fun _ c _ => N - (intOf c).toNat)
        case atStart => exact ⟨0, none, 0, [], rfl, Nat.zero_le _, rfl, Nat.zero_le _, hid rfl, OL.nil _ _ _ _ _ _, ExtX.refl _⟩
        case round =>
          obtain ⟨j, ro, rc, l, rfl, hj, rfl, hlj, hlo, hR, hE2⟩ := hrel
          have hXr2 : ∀ k, un X oo k = true → k < wr.heap.size := fun k hk => Nat.lt_of_lt_of_le (hXu k hk) hE2.size
          by_cases hjn : j < N
          · have hLit := (lit_sl (un X oo) wr [(j : Int)] 3 #[.int .i64 (j : Int)] rfl hXr2 (by simp)).sl (IntIn.elem _)
            have hA : Ext wr (wr.alloc (.cells #[.int .i64 (j : Int)] 3)) := (ExtX.refl _).alloc _
            have hs5 := s4.mono (IntIn.mono _) (mk_ext (hE2.trans hA))
            have hmv : Hid (meets [(j : Int)] s = decide ((j : Int) ∈ s)) := hid (by
              rw [Bool.eq_iff_iff, meets_iff]; simp)
            go_wp2_with fail
            refine (rmeets_any (un X oo) _ so [(j : Int)] s _ sc _ hLit hs5 (by simp) (by omega)).mono ?_
            rintro e w8 ⟨hw8, rfl⟩
            rw [hmv.out]
            by_cases hjs : (j : Int) ∈ s
            · have hlo2 : Hid (l = othersL s (j + 1)) := hid (by rw [hlo.out, othersL, if_pos hjs, List.append_nil])
              rw [decide_eq_true hjs]
              have hR2 := hR.ext0 (IntIn.elem _) hA
              have hE3 := hE2.trans hA
              rw [hw8] at hR2 hE3
              clear hjs hLit hA hs5 hw8
              go_wp2_with fail
              go_roundw
              case rel => exact ⟨j + 1, ro, rc, l, by go_num, by omega, rfl, by omega, hlo2, hR2, hE3⟩
              case measure => simp [intOf]; omega
            · have hlo2 : Hid (l ++ [(j : Int)] = othersL s (j + 1)) := hid (by rw [hlo.out, othersL, if_neg hjs])
              rw [decide_eq_false hjs]
              have hR2 := hR.ext0 (IntIn.elem _) hA
              have hE3 := hE2.trans hA
              have hXr3 : ∀ k, un X oo k = true → k < (wr.alloc (.cells #[.int .i64 (j : Int)] 3)).heap.size := fun k hk => Nat.lt_of_lt_of_le (hXr2 k hk) hA.size
              rw [hw8] at hR2 hE3 hXr3
              clear hjs hLit hA hs5 hw8
              have hb8 := hE3.size
              go_wp2_with (at_builtin; refine st_append1 slInt rfl (IntIn.elem .i64) hb8 hXr3 rfl rfl hR2 (.int .i64 j) (j : Int) rfl rfl (by omega) (by omega) ?_; intro ro2 rc2 w9 hR3 hE4 hor)
              have hE5 := hE3.own hR2 (Nat.le_refl _) hE4
              have hl4 : (l ++ [(j : Int)]).length ≤ j + 1 := by simp; omega
              go_roundw
              case rel => exact ⟨j + 1, ro2, rc2, l ++ [(j : Int)], by go_num, by omega, by rw [List.length_append]; rfl, hl4, hlo2, hR3, hE5⟩
              case measure => simp [intOf]; omega
          · have hje : j = N := by omega
            rw [hje] at hlo
            have hO2 := hO.ext0 LeafR.elem hE2
            have hXr4 : ∀ k, X k = true → k < wr.heap.size := fun k hk => Nat.lt_of_lt_of_le (hXr k hk) hE2.size
            have hb4 : w7.heap.size ≤ wr.heap.size := Nat.le_trans hE.size hE2.size
            have hs6 := s4.mono (IntIn.mono _) (mk_ext hE2)
            have hr6 := hR.sl (IntIn.elem _)
            have hlc := hR.lenCap
            have hE6 := hE.trans hE2
            have htl : ((C.map fun s => (s, othersL s N)).take k).length = k := by simp; omega
            have htl' := hid htl
            clear htl
            have htk2 : Hid (((C.map fun s => (s, othersL s N)).take k) ++ [(s, l)] = (C.map fun s => (s, othersL s N)).take (k + 1)) := hid (by rw [hlo.out]; exact htk.out)
            go_wp2_with (at_builtin; refine st_append1n slLeaf rfl LeafR.elem hb4 hXr4 k htl'.out rfl rfl hO2 (.agg #[.slice so s.length sc, .slice ro l.length rc]) (s, l) rfl ⟨so, sc, ro, rc, rfl, h3', hlc, hs6, hr6⟩ (by omega) (by omega) ?_; intro oo2 cq2 w9 hO3 hE7 hor)
            have hE8 := hE6.own hO2 (Nat.le_refl _) hE7
            rw [htk2.out] at hO3
            go_roundw
            case rel => exact ⟨k + 1, oo2, cq2, by go_num, by omega, rfl, hO3, hE8⟩
            case measure => simp [intOf]; omega
      · have hkC : k = C.length := by omega
        have hfin : Hid (((C.map fun s => (s, othersL s N)).take k) = leavesL N H) := hid (by rw [List.take_of_length_le (by simp; omega), hLdef.out])
        rw [hfin.out] at hO
        have hkl : Hid (k = (leavesL N H).length) := hid (by rw [← hfin.out]; simp; omega)
        have hcap := hO.lenCap
        have hE9 := hE07.trans hE
        go_wp2_with fail
        go_ret2
        refine ⟨hE9, oo, cq, ?_, ?_, ?_⟩
        · rw [hs.out.1, hs.out.2, ← hkl.out]; rfl
        · rw [hs.out.2]; exact hcap
        · rw [hs.out.2]; exact hO.sl LeafR.elem
end Go.Proofs.Ytblifbnbjffgkaa
