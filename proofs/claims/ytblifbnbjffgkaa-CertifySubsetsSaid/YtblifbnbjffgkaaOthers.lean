/- selection.Others: the numbers that are not in an ascending list. Conditions: small numbers. -/
import Derived.Test.YtblifbnbjffgkaaCopy
import Derived.Test.YtblifbnbjffgkaaFacts
namespace Go.Lim
/-- The numbers from 0 to n - 1 that are not in a list. -/
def othersL (s : List Int) : Nat → List Int
  | 0 => []
  | n + 1 => othersL s n ++ (if (n : Int) ∈ s then [] else [(n : Int)])
theorem othersL_len (s : List Int) : ∀ n, (othersL s n).length ≤ n
  | 0 => by simp [othersL]
  | n + 1 => by
    have := othersL_len s n
    rw [othersL, List.length_append]
    split <;> simp <;> omega
end Go.Lim
namespace Go.Proofs.Ytblifbnbjffgkaa
open Go.RowKit Go.Rep Go.Lim

theorem others_any (X : Nat → Bool) (ao : Option Addr) (s : List Int) (cap n : Nat) (w : World) (hs : Sl (IntIn .i64) 1 (mk X w) ao s) (hl : s.length ≤ 1000000) (hn : n ≤ 1000000) (hasc : s.Pairwise (· < ·)) (h0 : ∀ x ∈ s, 0 ≤ x) (hX : ∀ k, X k = true → k < w.heap.size) :
    Calls Try.prog 33 #[.slice ao s.length cap, .int .i64 (n : Int)] w (fun e w' => Ext w w' ∧ ∃ bo c, e = .returned (.slice bo (othersL s n).length c) ∧ (othersL s n).length ≤ c ∧ OL (IntIn .i64) 1 X w.heap.size 3 w' bo c (othersL s n)) := by
  have hhs := hs.hd
  have hasc' := hid hasc
  have h0' := hid h0
  clear hasc h0
  go_enter Try.func33, Try.ntmps33
  go_wp2_with fail
  go_loopw [5, 6, 7] (fun o c a wr => ∃ (i at_ : Nat) (oo : Option Addr) (co : Nat) (l : List Int), c = .int .i64 i ∧ a = .int .i64 at_ ∧ o = .slice oo l.length co ∧ i ≤ n ∧ at_ ≤ s.length ∧ Hid (l = othersL s i) ∧ l.length ≤ i ∧ OL (IntIn .i64) 1 X w.heap.size 3 wr oo co l ∧ Hid (∀ q (hq : q < s.length), (q < at_ → s[q] < i) ∧ (at_ ≤ q → (i : Int) ≤ s[q])) ∧ Ext w wr) (fun _ c _ _ => n - (intOf c).toNat)
  case atStart => exact ⟨0, 0, none, 0, [], rfl, rfl, rfl, Nat.zero_le _, Nat.zero_le _, hid rfl, Nat.zero_le _, OL.nil _ _ _ _ _ _, hid (fun q hq => ⟨fun h => by omega, fun _ => h0'.out _ (List.getElem_mem hq)⟩), ExtX.refl _⟩
  case round =>
    obtain ⟨i, at_, oo, co, l, rfl, rfl, rfl, hi, hat, hl2, hlen, hO, hq, hE⟩ := hrel
    have hXr : ∀ k, X k = true → k < wr.heap.size := fun k hk => Nat.lt_of_lt_of_le (hX k hk) hE.size
    have hbase := hE.size
    by_cases hlt : i < n
    · have key : ∀ (x : Int) (hx : at_ < s.length), s[at_] = x → x ≠ i → ¬ (i : Int) ∈ s := by
        intro x hx hxe hne hmem
        obtain ⟨q, hq1, hq2⟩ := List.getElem_of_mem hmem
        have h1 := hq.out q hq1
        by_cases hqa : q < at_
        · have := h1.1 hqa; omega
        · by_cases hqe : q = at_
          · subst hqe; rw [hxe] at hq2; exact hne hq2
          · have h2 := List.pairwise_iff_getElem.1 hasc'.out at_ q hx hq1 (by omega)
            have h3 := (hq.out at_ hx).2 (Nat.le_refl _)
            omega
      by_cases ha : at_ < s.length
      · have c1 := (hs.mono (IntIn.mono _) (mk_ext hE)).int at_ ha
        have hge := (hq.out at_ ha).2 (Nat.le_refl _)
        obtain ⟨x, hx⟩ : ∃ x, s[at_] = x := ⟨_, rfl⟩
        have hkey := hid (key x ha hx)
        rw [hx] at c1 hge
        by_cases hxe : x = i
        · subst hxe
          have hl3 : Hid (l = othersL s (i + 1)) := hid (by
            rw [hl2.out, othersL, if_pos (hx ▸ List.getElem_mem ha), List.append_nil])
          have hq2 : Hid (∀ q (hq : q < s.length), (q < at_ + 1 → s[q] < ((i + 1 : Nat) : Int)) ∧ (at_ + 1 ≤ q → ((i + 1 : Nat) : Int) ≤ s[q])) := hid (fun q hq1 => by
            have h1 := hq.out q hq1
            refine ⟨fun h => ?_, fun h => ?_⟩
            · by_cases hqe : q = at_
              · subst hqe; rw [hx]; omega
              · have := h1.1 (by omega); omega
            · have h2 := List.pairwise_iff_getElem.1 hasc'.out at_ q ha hq1 (by omega)
              rw [hx] at h2; omega)
          clear hx key hkey
          go_wp2_with (with_reducible refine up_ix1 slInt (by omega) (by assumption) ?_)
          go_roundw
          case rel => exact ⟨i + 1, at_ + 1, oo, co, l, by go_num, by go_num, rfl, by omega, by omega, hl3, by omega, hO, hq2, hE⟩
          case measure => simp [intOf]; omega
        · have hni := hkey.out hxe
          have hl3 : Hid (l ++ [(i : Int)] = othersL s (i + 1)) := hid (by rw [hl2.out, othersL, if_neg hni])
          have hq2 : Hid (∀ q (hq : q < s.length), (q < at_ → s[q] < ((i + 1 : Nat) : Int)) ∧ (at_ ≤ q → ((i + 1 : Nat) : Int) ≤ s[q])) := hid (fun q hq1 => by
            have h1 := hq.out q hq1
            refine ⟨fun h => by have := h1.1 h; omega, fun h => ?_⟩
            have h2 := h1.2 h
            have h3 : s[q] ≠ i := fun h3 => hni (h3 ▸ List.getElem_mem hq1)
            omega)
          clear hx key hkey hni
          go_wp2_with (first | (with_reducible refine up_ix1 slInt (by omega) (by assumption) ?_) | (at_builtin; refine st_append1 slInt rfl (IntIn.elem .i64) hbase hXr rfl rfl hO (.int .i64 i) (i : Int) rfl rfl (by omega) (by omega) ?_; intro oo2 co2 w3 hO3 hE4 hor))
          have hE5 := hE.own hO (Nat.le_refl _) hE4
          have hl4 : (l ++ [(i : Int)]).length ≤ i + 1 := by simp; omega
          go_roundw
          case rel => exact ⟨i + 1, at_, oo2, co2, l ++ [(i : Int)], by go_num, rfl, by rw [List.length_append]; rfl, by omega, hat, hl3, hl4, hO3, hq2, hE5⟩
          case measure => simp [intOf]; omega
      · have hni : ¬ (i : Int) ∈ s := fun hmem => by
          obtain ⟨q, hq1, hq2⟩ := List.getElem_of_mem hmem
          have := (hq.out q hq1).1 (by omega)
          omega
        have hl3 : Hid (l ++ [(i : Int)] = othersL s (i + 1)) := hid (by rw [hl2.out, othersL, if_neg hni])
        have hq2 : Hid (∀ q (hq : q < s.length), (q < at_ → s[q] < ((i + 1 : Nat) : Int)) ∧ (at_ ≤ q → ((i + 1 : Nat) : Int) ≤ s[q])) := hid (fun q hq1 => by
          have h1 := hq.out q hq1
          exact ⟨fun h => by have := h1.1 h; omega, fun h => by omega⟩)
        clear key hni
        go_wp2_with (at_builtin; refine st_append1 slInt rfl (IntIn.elem .i64) hbase hXr rfl rfl hO (.int .i64 i) (i : Int) rfl rfl (by omega) (by omega) ?_; intro oo2 co2 w3 hO3 hE4 hor)
        have hE5 := hE.own hO (Nat.le_refl _) hE4
        have hl4 : (l ++ [(i : Int)]).length ≤ i + 1 := by simp; omega
        go_roundw
        case rel => exact ⟨i + 1, at_, oo2, co2, l ++ [(i : Int)], by go_num, rfl, by rw [List.length_append]; rfl, by omega, hat, hl3, hl4, hO3, hq2, hE5⟩
        case measure => simp [intOf]; omega
    · have hin : i = n := by omega
      subst hin
      have hcc := hO.lenCap
      have hl2' := hl2.out
      go_wp2_with fail
      go_ret
      rw [← hl2']
      exact ⟨hE, oo, co, rfl, hcc, hO⟩
end Go.Proofs.Ytblifbnbjffgkaa
