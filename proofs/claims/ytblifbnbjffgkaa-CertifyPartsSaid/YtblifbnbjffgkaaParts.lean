/- law42.CertifyParts returns true. Conditions: none. -/
import Derived.Test.YtblifbnbjffgkaaCovers
import Derived.Test.YtblifbnbjffgkaaCombos
import Derived.Test.YtblifbnbjffgkaaCountL
namespace Go.Proofs.Ytblifbnbjffgkaa
open Go.RowKit Go.Rep Go.Lim

theorem countP_take {α : Type} (p : α → Bool) (L : List α) (k : Nat) (hk : k < L.length) : (L.take (k + 1)).countP p = (L.take k).countP p + (if p L[k] then 1 else 0) := by
  rw [List.take_succ_eq_append_getElem hk, List.countP_append, List.countP_singleton]

theorem ch_small : ∀ N H, N ≤ 7 → ch N H ≤ 1000000 := by
  have key : ∀ N H, ch N H ≤ 2 ^ N := by
    intro N
    induction N with
    | zero => intro H; cases H <;> simp [ch]
    | succ N ih =>
      intro H
      cases H with
      | zero => rw [ch_zero]; exact Nat.pow_pos (by omega)
      | succ H => rw [ch, Nat.pow_succ]; have := ih H; have := ih (H + 1); omega
  intro N H hN
  exact Nat.le_trans (key N H) (Nat.le_trans (Nat.pow_le_pow_right (by omega) hN) (by decide))

set_option maxHeartbeats 800000 in
theorem parts_any (lo : Option Addr) (l : List Int) (cl : Nat) (w : World) (hl : Sl (IntIn .i64) 1 w.cell? lo l) (hcl : l.length ≤ cl) (hlb : l.length ≤ 9223372036854775807) :
    Calls Try.prog 4 #[.slice lo l.length cl] w (BoolOut w true) := by
  go_enter Try.func4, Try.ntmps4
  go_wp2_with fail
  refine (tnew_any lo l cl w hl hcl hlb).mono ?_
  rintro e w1 ⟨rfl, hE1, ht1, hsz1⟩
  obtain ⟨tb, htb⟩ : ∃ tb, w.heap.size = tb := ⟨_, rfl⟩
  obtain ⟨X, hX⟩ : ∃ X, tbm tb = X := ⟨_, rfl⟩
  have hXk : ∀ k, X k = true → k = tb := fun k hk => by rw [← hX] at hk; simpa [tbm] using hk
  have htw : w.heap.size ≤ tb := by omega
  rw [htb] at ht1 hsz1 ⊢
  rw [hX] at ht1
  have hX1 : ∀ k, X k = true → k < w1.heap.size := fun k hk => by have := hXk k hk; omega
  have hY : ∀ k, tbm tb k = true → X k = true := fun k hk => by rw [← hX]; exact hk
  clear hl htb hcl hlb
  go_wp2_with fail
  refine (next_any X tb 6 w1 ht1 (by omega)).mono ?_
  rintro e w2 ⟨hE2, ht2, m, rfl, hm⟩
  have hm6 : m < 6 := by omega
  clear hm
  go_wp2_with fail
  obtain ⟨N, hN⟩ : ∃ N : Nat, (1 : Int) + m = N := ⟨m + 1, by omega⟩
  rw [hN]
  have hN1 : 1 ≤ N := by omega
  have hN6 : N ≤ 6 := by omega
  clear hN
  refine (next_any X tb ((N : Int) + 1) w2 ht2 (by omega)).mono ?_
  rintro e w3 ⟨hE3, ht3, H, rfl, hH⟩
  have hHN : H ≤ N := by omega
  clear hH
  have hE4 := hE2.trans hE3
  have hX3 : ∀ k, X k = true → k < w3.heap.size := fun k hk => Nat.lt_of_lt_of_le (hX1 k hk) hE4.size
  go_wp2_with fail
  refine (leaves_any X tb N H w3 ht3 hX3 (by omega) (by omega) (by omega) (by omega)).mono ?_
  rintro e w5 ⟨hE7, ht5, xo, x, cx, rfl, hcx, hxl, hxb, hsx⟩
  have hE8 := hE4.trans hE7
  have hE9 : Ext w w5 := hE1.then_ hE8 (fun i hi _ => tbm_ne (by omega))
  have hX5 : ∀ k, X k = true → k < w5.heap.size := fun k hk => Nat.lt_of_lt_of_le (hX1 k hk) hE8.size
  have hxb' : Hid (∀ y ∈ x, y.1.length ≤ 1099511627776 ∧ y.2.length ≤ 1099511627776) := hid fun y hy => by have := hxb.out y hy; omega
  have hxl' : x.length ≤ 1099511627776 := by omega
  clear hE1 hE2 hE3 hE4 hE7 hE8 ht1 ht2 ht3 ht5 hxb hX hX1 hX3 hXk hY htw hsz1
  go_wp2_with fail
  refine (cover_any X xo x cx N H w5 hsx hxl' hxb' hX5).mono ?_
  rintro e w6 ⟨hF1, rfl⟩
  cases hb : coverB N H x
  · go_wp2_with fail
    refine (awake_any w6).mono ?_
    rintro e w7 ⟨hF2, rfl⟩
    have hG := hE9.trans (hF1.trans hF2)
    go_wp2_with fail
    go_ret
    exact ⟨hG, rfl⟩
  · have hone := hid (cover_one hb)
    clear hb
    have hX6 : ∀ k, X k = true → k < w6.heap.size := fun k hk => Nat.lt_of_lt_of_le (hX5 k hk) hF1.size
    go_wp2_with fail
    refine (combos_any X N H w6 (by omega) hHN (ch_small N H (by omega)) hX6).mono ?_
    rintro e w7 ⟨hF2, co, cc, rfl, hcc, hC⟩
    have hsc := hC.sl (SlV.elem (IntIn.elem .i64))
    have hhc := hsc.hd
    have hmem := hid (combs_mem N H 0)
    have hclen : (combs N H 0).length ≤ 1000000 := by rw [combs_length]; exact ch_small N H (by omega)
    have hsx7 := hsx.mono LeafR.mono (mk_ext (hF1.trans hF2))
    have hX7 : ∀ k, X k = true → k < w7.heap.size := fun k hk => Nat.lt_of_lt_of_le (hX6 k hk) hF2.size
    have hE10 := hE9.trans (hF1.trans hF2)
    obtain ⟨C, hCC⟩ : ∃ C, combs N H 0 = C := ⟨_, rfl⟩
    rw [hCC] at hone hcc hsc hhc hmem hclen ⊢
    clear hC hCC hF1 hF2 hsx hE9 hX5 hX6
    go_wp2_with fail
    have hhx := hsx7.hd
    go_loopw [35] (fun c wr => ∃ (k : Nat), c = .int .i64 k ∧ k ≤ C.length ∧ Ext w7 wr) (fun c _ => C.length - (intOf c).toNat)
    case atStart => exact ⟨0, rfl, Nat.zero_le _, ExtX.refl _⟩
    case round =>
      obtain ⟨k, rfl, hk, hE⟩ := hrel
      by_cases hlt : k < C.length
      · obtain ⟨so, sc, f37, h3, s3⟩ := hsc.slice k hlt
        have f3 := hE.cell f37
        clear f37
        have hone2 := hid (hone.out C[k] (List.getElem_mem hlt))
        have hml := hid (hmem.out C[k] (List.getElem_mem hlt))
        obtain ⟨s, hs⟩ : ∃ s, C[k] = s := ⟨_, rfl⟩
        rw [hs] at hone2 hml f3 h3 s3
        have hsl : s.length ≤ 1000 := by have := hml.out.1; omega
        clear hs
        go_wp2_with (first | (with_reducible refine up_ixn slLeaf (by omega) (by assumption) ?_) | (with_reducible refine up_ix1 slInts1 (by omega) (by assumption) ?_))
        go_loopw [9, 41] (fun hc c wr => ∃ (j : Nat), c = .int .i64 j ∧ hc = .int .i64 ((x.take j).countP fun x => matchL x s) ∧ j ≤ x.length ∧ Ext w7 wr) (fun _ c _ => x.length - (intOf c).toNat)
        case atStart => exact ⟨0, rfl, by simp, Nat.zero_le _, hE⟩
        case round =>
          obtain ⟨j, rfl, rfl, hj, hE2⟩ := hrel
          by_cases hjl : j < x.length
          · have hcnt := hid (countP_take (fun x => matchL x s) x j hjl)
            have hcb : (x.take j).countP (fun x => matchL x s) ≤ 2000000 := Nat.le_trans List.countP_le_length (by simp; omega)
            obtain ⟨c0, hc0⟩ : ∃ c0, (x.take j).countP (fun x => matchL x s) = c0 := ⟨_, rfl⟩
            rw [hc0] at hcnt hcb ⊢
            have hs1 := hsx7.mono LeafR.mono (mk_ext hE2)
            obtain ⟨I, O, hx⟩ : ∃ I O, x[j] = (I, O) := ⟨_, _, rfl⟩
            have hlI := hxb'.out x[j] (List.getElem_mem hjl)
            rw [hx] at hlI hcnt
            obtain ⟨hlI, hlO⟩ := hlI
            simp only at hlI hlO
            have hx' := hid hx
            clear hx hc0
            go_wp2_with (first | (first | (with_reducible refine up_ixn slLeaf (by omega) (by assumption) ?_) | (with_reducible refine up_ix1 slInts1 (by omega) (by assumption) ?_)) | ((with_reducible show wpList _ _ _ (⟨_, .load _ _, _, _, _, _⟩ :: _) _ _); refine st_loadElem stLeaf j hs1 hjl rfl (by omega) LeafR.agg ?_; rintro u hu; rw [hx'.out] at hu; obtain ⟨a1, c1, a2, c2, rfl, hc1, hc2, hs2, hs4⟩ := hu))
            have hEn : Ext wr (wr.alloc (.cells #[.slice a1 I.length c1, .slice a2 O.length c2] 26)) := (ExtX.refl wr).alloc _
            have k1 : (wr.alloc (.cells #[.slice a1 I.length c1, .slice a2 O.length c2] 26)).cell? ⟨wr.heap.size, 0, none⟩ = some (.slice a1 I.length c1) := cell_new 0 rfl
            have k2 : (wr.alloc (.cells #[.slice a1 I.length c1, .slice a2 O.length c2] 26)).cell? ⟨wr.heap.size, 1, none⟩ = some (.slice a2 O.length c2) := cell_new 1 rfl
            generalize wr.alloc (.cells #[.slice a1 I.length c1, .slice a2 O.length c2] 26) = W at hEn k1 k2 ⊢
            have hE7W := hE2.trans hEn
            have hXW : ∀ k, X k = true → k < W.heap.size := fun k hk => Nat.lt_of_lt_of_le (hX7 k hk) hE7W.size
            refine (lwithin_any X a1 so I s c1 sc W (hs2.mono (IntIn.mono _) (mk_ext hEn)) (s3.mono (IntIn.mono _) (mk_ext hE7W)) hlI (by omega) hXW).mono ?_
            rintro e w8 ⟨hE3, rfl⟩
            have hmt : Hid (matchL (I, O) s = ((I.all fun x => s.any fun y => x == y) && !meets O s)) := hid rfl
            have hE78 := hE7W.trans hE3
            have k2' := hE3.cell k2
            cases hb : (I.all fun x => s.any fun y => x == y)
            · have hcn : Hid ((x.take (j + 1)).countP (fun x => matchL x s) = c0) := hid (by rw [hcnt.out, hmt.out, hb]; rfl)
              clear hb
              go_wp2_with fail
              go_roundw
              case rel => exact ⟨j + 1, by go_num, by rw [hcn.out], by omega, hE78⟩
              case measure => simp [intOf]; omega
            · have hb' := hid hb
              clear hb
              go_wp2_with fail
              refine (lapart_any X a2 so O s c2 sc w8 (hs4.mono (IntIn.mono _) (mk_ext (hEn.trans hE3))) (s3.mono (IntIn.mono _) (mk_ext hE78)) hlO (by omega)).mono ?_
              rintro e w9 ⟨rfl, rfl⟩
              cases hb2 : meets O s
              · have hcn : Hid ((x.take (j + 1)).countP (fun x => matchL x s) = c0 + 1) := hid (by rw [hcnt.out, hmt.out, hb'.out, hb2]; rfl)
                clear hb2
                go_wp2_with fail
                go_roundw
                case rel => exact ⟨j + 1, by go_num, by rw [hcn.out]; go_num, by omega, hE78⟩
                case measure => simp [intOf]; omega
              · have hcn : Hid ((x.take (j + 1)).countP (fun x => matchL x s) = c0) := hid (by rw [hcnt.out, hmt.out, hb'.out, hb2]; rfl)
                clear hb2
                go_wp2_with fail
                go_roundw
                case rel => exact ⟨j + 1, by go_num, by rw [hcn.out], by omega, hE78⟩
                case measure => simp [intOf]; omega
          · have hje : j = x.length := by omega
            have hfin : (x.take j).countP (fun x => matchL x s) = 1 := by rw [hje, List.take_length]; exact hone2.out
            rw [hfin]
            clear hfin hje
            go_wp2_with fail
            go_roundw
            case rel => exact ⟨k + 1, by go_num, by omega, hE2⟩
            case measure => simp [intOf]; omega
      · go_wp2_with fail
        refine (awake_any wr).mono ?_
        rintro e w8 ⟨hF3, rfl⟩
        have hG := hE10.trans (hE.trans hF3)
        go_wp2_with fail
        go_ret
        exact ⟨hG, rfl⟩
end Go.Proofs.Ytblifbnbjffgkaa
