/- slices.Clone, natural.Div by one digit, and the reference's Valid, Take, trim, limb, FromUint, Add, Compare. Conditions: lengths far below any machine's. -/
import Derived.Test.YtblifbnbjffgkaaNat2
namespace Go.Proofs.Ytblifbnbjffgkaa
open Go.RowKit Go.Rep Go.Lim

theorem clone_any (X : Nat → Bool) (ao : Option Addr) (l : List Nat) (cap : Nat) (w : World) (n : Nat) (hs : Sl (NatIn .u32) 1 (mk X w) ao l) (hc : Canon l n) (hl : l.length ≤ 4398046511104) (hX : ∀ k, X k = true → k < w.heap.size) :
    Calls Try.prog 52 #[.slice ao l.length cap] w (NatOut X w n) := by
  have hnil := fun wx => Lib.run_eql_slice_nil (P := Try.prog) wx 50 64 ao l.length cap 0 0 Try.underlying50
  cases ao with
  | none =>
    have hl0 : l = [] := by
      cases l with
      | nil => rfl
      | cons x l => obtain ⟨b, o, h⟩ := hs.1 (by simp); simp at h
    subst hl0
    simp only [List.length_nil, Option.isNone_none] at hnil ⊢
    go_enter Try.func52, Try.ntmps52
    go_wp2_with fail
    go_ret
    exact ⟨ExtX.refl _, none, 0, [], rfl, by simp, hc, Sl.nil _ _ _ _⟩
  | some ad =>
    have hO : OL (NatIn .u32) 1 X w.heap.size 64 (w.alloc (.cells #[] 64)) (some ⟨w.heap.size, 0, none⟩) 0 [] :=
      OL.lit (NatIn.elem .u32) hX (Nat.le_refl _) [] [] _ rfl rfl (fun i hi => by simp at hi) (by simp)
    have hs2 := hs.mono (NatIn.mono _) (mk_new X w (.cells #[] 64))
    have hX2 : ∀ k, X k = true → k < (w.alloc (.cells #[] 64)).heap.size := fun k hk => by have := hX k hk; simp; omega
    go_enter Try.func52, Try.ntmps52
    go_wp2_with (at_builtin; refine st_appendl (l := []) slU32 rfl (NatIn.elem .u32) (by simp) hX2 l rfl rfl hO hs2 (by simp; omega) (by simp; omega) ?_; intro ao2 cap2 w2 hO2 hE2 _)
    go_ret
    exact ⟨((ExtX.refl w).alloc _).own hO (Nat.le_refl _) hE2, _, _, l, rfl, by have := hO2.lenCap; simpa using this, hc, by simpa using hO2.sl (NatIn.elem _)⟩

/-- Quotient, remainder and true come back. -/
def DivOut (X : Nat → Bool) (w : World) (q r : Nat) (e : Ending) (w' : World) : Prop :=
  Ext w w' ∧ ∃ ao cap l bo cbp m, e = .returned (.tuple #[.slice ao l.length cap, .slice bo m.length cbp, .bool true]) ∧ l.length ≤ cap ∧ Canon l q ∧ Sl (NatIn .u32) 1 (mk X w') ao l ∧ m.length ≤ cbp ∧ Canon m r ∧ Sl (NatIn .u32) 1 (mk X w') bo m


/-- natural.Div where the divisor has one digit. -/
theorem div1_any (X : Nat → Bool) (ao bo : Option Addr) (la lb : List Nat) (ca cb : Nat) (w : World) (hsa : Sl (NatIn .u32) 1 (mk X w) ao la) (hsb : Sl (NatIn .u32) 1 (mk X w) bo lb)
    (hda : Dig la) (hdb : Dig lb) (hla : la.length ≤ 1099511627776) (hlb : lb.length ≤ 1099511627776) (hca : la.length ≤ ca) (hcb : lb.length ≤ cb) (hX : ∀ k, X k = true → k < w.heap.size) (na nb : Nat) (hna : val la = na) (hnb : val lb = nb)
    (h0 : 0 < nb) (h1 : nb < 4294967296) :
    Calls Try.prog 44 #[.slice ao la.length ca, .slice bo lb.length cb] w (DivOut X w (na / nb) (na % nb)) := by
  go_enter Try.func44, Try.ntmps44
  go_wp2_with fail
  refine (value_any X _ _ _ _ hsa hda (by omega) hca).mono ?_
  rintro e w' ⟨rfl, ao1, ca1, a, rfl, hca1, hal, hcan, hsa1⟩
  go_wp2_with fail
  refine (value_any X _ _ _ _ hsb hdb (by omega) hcb).mono ?_
  rintro e w' ⟨rfl, bo1, cb1, b, rfl, hcb1, hbl, hcbn, hsb1⟩
  rw [hna] at hcan
  rw [hnb] at hcbn
  have hb1 := canon_one hcbn h0 h1
  subst hb1
  have hal' : a.length ≤ 1099511627776 := Nat.le_trans hal hla
  have hva := hid hcan.val
  have hvb := hid hcbn.val
  have hdb1 := hcbn.1
  have hda1 := hcan.1
  clear hna hnb hal hbl hsa hsb hla hlb hca hcb
  have hha := hsa1.hd
  have hhb := hsb1.hd
  simp only [List.length_cons, List.length_nil, Nat.zero_add] at hhb hcb1 ⊢
  go_wp2_with fail
  refine (compare_any X ao1 bo1 a [nb] ca1 cb1 w hsa1 hsb1 hda1 hdb1 hal' (by simp) hca1 hcb1 na nb hva.out hvb.out).mono ?_
  rintro e w2 ⟨hE2, rfl⟩
  have hsa2 := hsa1.mono (NatIn.mono _) (mk_ext hE2)
  have hsb2 := hsb1.mono (NatIn.mono _) (mk_ext hE2)
  have hX2 : ∀ k, X k = true → k < w2.heap.size := fun k hk => Nat.lt_of_lt_of_le (hX k hk) hE2.size
  by_cases hlt : na < nb
  · have hcl : cmpN na nb < 0 := (cmpN_lt na nb).2 hlt
    have hq := hid (Nat.div_eq_of_lt hlt)
    have hr := hid (Nat.mod_eq_of_lt hlt)
    generalize cmpN na nb = c at hcl
    go_wp2_with fail
    refine (clone_any X _ _ _ _ na hsa2 hcan (by omega) hX2).mono ?_
    rintro e w3 ⟨hE3, ao3, ca3, l3, rfl, hc3, hcan3, hs3⟩
    go_wp2_with fail
    go_ret3
    refine ⟨hE2.trans hE3, none, 0, [], ao3, ca3, l3, rfl, by simp, ?_, Sl.nil _ _ _ _, hc3, ?_, hs3⟩
    · rw [hq.out]; exact Canon.nil
    · rw [hr.out]; exact hcan3
  · have hcl : ¬ cmpN na nb < 0 := fun h => hlt ((cmpN_lt na nb).1 h)
    generalize cmpN na nb = c at hcl
    have hcell := hsb2.nat 0 (by simp)
    simp only [List.getElem_cons_zero] at hcell
    go_wp2_with (with_reducible refine up_ix1 slU32 (by omega) (by assumption) ?_)
    refine (short_any X ao1 a ca1 nb w2 hsa2 hda1 hal' hX2 h0 h1).mono ?_
    rintro e w3 ⟨hE3, ao3, ca3, l3, rfl, hc3, hcan3, hs3⟩
    have hX3 : ∀ k, X k = true → k < w3.heap.size := fun k hk => Nat.lt_of_lt_of_le (hX2 k hk) hE3.size
    have hrl : nv a % nb < nb := Nat.mod_lt _ h0
    obtain ⟨r, hr⟩ : ∃ r, nv a % nb = r := ⟨_, rfl⟩
    rw [hr] at hrl ⊢
    have hr' := hid hr
    clear hr
    go_wp2_with fail
    refine (fromUint_any X r _ (by omega) hX3).mono ?_
    rintro e w4 ⟨hE4, bo4, cb4, l4, rfl, hc4, hcan4, hs4⟩
    go_wp2_with fail
    go_ret3
    have hs3' := hs3.mono (NatIn.mono _) (mk_ext hE4)
    have hnv := hcan.2.2
    rw [hnv] at hcan3
    have hr2 := hr'.out
    rw [hnv] at hr2
    rw [← hr2] at hcan4
    exact ⟨(hE2.trans hE3).trans hE4, ao3, ca3, l3, bo4, cb4, l4, rfl, hc3, hcan3, hs3', hc4, hcan4, hs4⟩
end Go.Proofs.Ytblifbnbjffgkaa
