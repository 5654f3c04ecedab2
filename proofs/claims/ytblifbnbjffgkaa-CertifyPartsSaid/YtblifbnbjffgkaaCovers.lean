/- law42.CertifyCovers returns true. Conditions: lengths far below any machine's. -/
import Derived.Test.YtblifbnbjffgkaaAwake
namespace Go.Proofs.Ytblifbnbjffgkaa
open Go.RowKit Go.Rep Go.Lim

theorem refcover_any (X : Nat → Bool) (lo : Option Addr) (L : List Leaf) (cl : Nat) (n h : Int) (w : World) (hs : Sl LeafR 2 (mk X w) lo L) (hL : L.length ≤ 1099511627776) (hcl : L.length ≤ cl) (hLl : Hid (∀ x ∈ L, x.1.length ≤ 1099511627776 ∧ x.2.length ≤ 1099511627776)) (hX : ∀ k, X k = true → k < w.heap.size) :
    Calls Try.prog 12 #[.int .i64 n, .int .i64 h, .slice lo L.length cl] w (BoolOut w (coverB n h L)) := by
  go_enter Try.func12, Try.ntmps12
  go_wp2_with fail
  refine (rcover_any X lo L cl n h w hs hcl hL hLl hX).mono ?_
  rintro e w1 ⟨hE, rfl⟩
  go_wp2_with fail
  go_ret
  exact ⟨hE, rfl⟩

theorem covers_any (lo ro : Option Addr) (l : List Int) (raw : List Leaf) (cl cr : Nat) (rn rh : Int) (w : World) (hl : Sl (IntIn .i64) 1 w.cell? lo l) (hr : Sl LeafR 2 w.cell? ro raw) (hcl : l.length ≤ cl) (hcr : raw.length ≤ cr) (hlb : l.length ≤ 9223372036854775807) (hrb : raw.length ≤ 9223372036854775807) (hLl : Hid (∀ x ∈ raw, x.1.length ≤ 9223372036854775807 ∧ x.2.length ≤ 9223372036854775807)) :
    Calls Try.prog 3 #[.slice lo l.length cl, .slice ro raw.length cr, .int .i64 rn, .int .i64 rh] w (BoolOut w true) := by
  rw [← mk_noY] at hl hr
  have hhr := hr.hd
  by_cases h20 : 20 < raw.length
  · go_enter Try.func3, Try.ntmps3
    go_wp2_with fail
    refine (awake_any w).mono ?_
    rintro e w1 ⟨hE, rfl⟩
    go_wp2_with fail
    go_ret
    exact ⟨hE, rfl⟩
  · go_enter Try.func3, Try.ntmps3
    go_wp2_with fail
    go_loopw [10, 21] (fun s c wr => ∃ (k : Nat), c = .int .i64 k ∧ k ≤ raw.length ∧ Hid (∀ j (hj : j < raw.length), j < k → raw[j].1.length ≤ 70 ∧ raw[j].2.length ≤ 70) ∧ Ext w wr) (fun _ c _ => raw.length - (intOf c).toNat)
    case atStart => exact ⟨0, rfl, Nat.zero_le _, hid (fun j hj h0 => by omega), ExtX.refl _⟩
    case round =>
      obtain ⟨k, rfl, hk, hok, hE⟩ := hrel
      by_cases hlt : k < raw.length
      · have hs1 := hr.mono LeafR.mono (mk_ext hE)
        obtain ⟨I, O, hx⟩ : ∃ I O, raw[k] = (I, O) := ⟨_, _, rfl⟩
        have hlI := hLl.out raw[k] (List.getElem_mem hlt)
        rw [hx] at hlI
        obtain ⟨hlI, hlO⟩ := hlI
        simp only at hlI hlO
        have hx' := hid hx
        clear hx
        by_cases h1 : 70 < I.length
        · go_wp2_with (first | (with_reducible refine up_ixn slLeaf (by omega) (by assumption) ?_) | ((with_reducible show wpList _ _ _ (⟨_, .load _ _, _, _, _, _⟩ :: _) _ _); refine st_loadElem stLeaf k hs1 hlt rfl (by omega) LeafR.agg ?_; rintro u hu; rw [hx'.out] at hu; obtain ⟨a1, c1, a2, c2, rfl, hc1, hc2, hs2, hs3⟩ := hu))
          refine (awake_any _).mono ?_
          rintro e w1 ⟨hE1, rfl⟩
          have hE2 := (hE.alloc (.cells #[.slice a1 I.length c1, .slice a2 O.length c2] 26)).trans hE1
          go_wp2_with fail
          go_ret
          exact ⟨hE2, rfl⟩
        · by_cases h2 : 70 < O.length
          · go_wp2_with (first | (with_reducible refine up_ixn slLeaf (by omega) (by assumption) ?_) | ((with_reducible show wpList _ _ _ (⟨_, .load _ _, _, _, _, _⟩ :: _) _ _); refine st_loadElem stLeaf k hs1 hlt rfl (by omega) LeafR.agg ?_; rintro u hu; rw [hx'.out] at hu; obtain ⟨a1, c1, a2, c2, rfl, hc1, hc2, hs2, hs3⟩ := hu))
            refine (awake_any _).mono ?_
            rintro e w1 ⟨hE1, rfl⟩
            have hE2 := (hE.alloc (.cells #[.slice a1 I.length c1, .slice a2 O.length c2] 26)).trans hE1
            go_wp2_with fail
            go_ret
            exact ⟨hE2, rfl⟩
          · go_wp2_with (first | (with_reducible refine up_ixn slLeaf (by omega) (by assumption) ?_) | ((with_reducible show wpList _ _ _ (⟨_, .load _ _, _, _, _, _⟩ :: _) _ _); refine st_loadElem stLeaf k hs1 hlt rfl (by omega) LeafR.agg ?_; rintro u hu; rw [hx'.out] at hu; obtain ⟨a1, c1, a2, c2, rfl, hc1, hc2, hs2, hs3⟩ := hu))
            have hE2 := hE.alloc (.cells #[.slice a1 I.length c1, .slice a2 O.length c2] 26)
            have hnew : Hid (∀ j (hj : j < raw.length), j < k + 1 → raw[j].1.length ≤ 70 ∧ raw[j].2.length ≤ 70) := hid (fun j hj hjk => by
              by_cases hjk' : j < k
              · exact hok.out j hj hjk'
              · obtain rfl : j = k := by omega
                rw [hx'.out]; exact ⟨by simp; omega, by simp; omega⟩)
            go_roundw
            case rel => exact ⟨k + 1, by go_num, by omega, hnew, hE2⟩
            case measure => simp [intOf]; omega
      · have hLl' : Hid (∀ x ∈ raw, x.1.length ≤ 1099511627776 ∧ x.2.length ≤ 1099511627776) := hid (fun x hx => by
          obtain ⟨j, hj, rfl⟩ := List.getElem_of_mem hx
          have := hok.out j hj (by omega)
          omega)
        clear hLl hok
        have hl1 : Sl (IntIn .i64) 1 wr.cell? lo l := by
          have := hl.mono (IntIn.mono _) (mk_ext hE)
          rw [mk_noY] at this; exact this
        have hr1 := hr.mono LeafR.mono (mk_ext hE)
        go_wp2_with fail
        refine (tnew_any lo l cl wr hl1 hcl hlb).mono ?_
        rintro e w1 ⟨rfl, hE1, ht1, hsz1⟩
        obtain ⟨tb, htb⟩ : ∃ tb, wr.heap.size = tb := ⟨_, rfl⟩
        obtain ⟨X, hX⟩ : ∃ X, tbm tb = X := ⟨_, rfl⟩
        have hXk : ∀ k, X k = true → k = tb := fun k hk => by rw [← hX] at hk; simpa [tbm] using hk
        have hr2 : Sl LeafR 2 (mk X w1) ro raw := hr1.mono LeafR.mono (mk_over hE1 (fun k _ hk => by simp [noY] at hk) fun k hk hz => by have := hXk k hz; omega)
        rw [htb] at ht1 hsz1 ⊢
        rw [hX] at ht1
        have hX1 : ∀ k, X k = true → k < w1.heap.size := fun k hk => by have := hXk k hk; omega
        have hE2 := hE.trans hE1
        have htw : w.heap.size ≤ tb := by have := hE.size; omega
        clear hE hE1 hr1 hl1 hr hl htb
        go_wp2_with fail
        refine (count_any X tb 7 w1 ht1 hX1 (by omega) (by omega)).mono ?_
        rintro e w2 ⟨hE3, ht2, n, rfl, hn1, hn2⟩
        have hn3 : -1 ≤ n := by omega
        have hn4 : n ≤ 8 := by omega
        have hX2 : ∀ k, X k = true → k < w2.heap.size := fun k hk => Nat.lt_of_lt_of_le (hX1 k hk) hE3.size
        clear hn1 hn2 hsz1
        go_wp2_with fail
        refine (next_any X tb (n + 2) w2 ht2 (by omega)).mono ?_
        rintro e w3 ⟨hE4, ht3, m1, rfl, hm1⟩
        go_wp2_with fail
        refine (next_any X tb 12 w3 ht3 (by omega)).mono ?_
        rintro e w4 ⟨hE5, ht4, m2, rfl, hm2⟩
        have hm12 : m2 < 12 := by omega
        have hm11 : m1 ≤ 10 := by omega
        have hq : 0 ≤ (m2 : Int).tdiv 11 ∧ (m2 : Int).tdiv 11 ≤ 1 := by
          rw [Int.tdiv_eq_ediv_of_nonneg (by omega)]; omega
        obtain ⟨q, hqe⟩ : ∃ q, (m2 : Int).tdiv 11 = q := ⟨_, rfl⟩
        rw [hqe] at hq
        clear hm1 hm2
        have hE6 := (hE3.trans hE4).trans hE5
        have hX4 : ∀ k, X k = true → k < w4.heap.size := fun k hk => Nat.lt_of_lt_of_le (hX1 k hk) hE6.size
        have hY : ∀ k, tbm tb k = true → X k = true := fun k hk => by rw [← hX]; exact hk
        go_wp2_with fail
        obtain ⟨h, hhe⟩ : ∃ h : Int, (m1 : Int) - q = h := ⟨_, rfl⟩
        rw [hhe]
        refine (leaves_any X tb n h w4 ht4 hX4 (by omega) (by omega) (by omega) (by omega)).mono ?_
        rintro e w5 ⟨hE7, ht5, xo, x, cx, rfl, hcx, hxl, hxb, hsx⟩
        have hE8 := hE6.trans hE7
        have hr5 := hr2.mono LeafR.mono (mk_mono hE8 hY)
        have hE9 : Ext w w5 := hE2.then_ hE8 (fun i hi _ => tbm_ne (by omega))
        have hX5 : ∀ k, X k = true → k < w5.heap.size := fun k hk => Nat.lt_of_lt_of_le (hX1 k hk) hE8.size
        have hxb' : Hid (∀ y ∈ x, y.1.length ≤ 1099511627776 ∧ y.2.length ≤ 1099511627776) := hid fun y hy => by have := hxb.out y hy; omega
        have hxl' : x.length ≤ 1099511627776 := by omega
        have hrl' : raw.length ≤ 1099511627776 := by omega
        clear hqe hq hhe hE2 hE3 hE4 hE5 hE6 hE7 hE8 hr2 ht1 ht2 ht3 ht4 ht5 hxb hX hX1 hX2 hX4 hXk hY
        clear hlb hrb hm12 hm11
        go_wp2_with fail
        refine (cover_any X xo x cx n h w5 hsx hxl' hxb' hX5).mono ?_
        rintro e w6 ⟨hF1, rfl⟩
        go_wp2_with fail
        refine (refcover_any X xo x cx n h w6 (hsx.mono LeafR.mono (mk_ext hF1)) hxl' hcx hxb' (fun k hk => Nat.lt_of_lt_of_le (hX5 k hk) hF1.size)).mono ?_
        rintro e w7 ⟨hF2, rfl⟩
        have hG2 := hF1.trans hF2
        obtain ⟨b, hb⟩ : ∃ b, coverB n h x = b := ⟨_, rfl⟩
        rw [hb]
        clear hb
        go_wp2_with fail
        have hX7 : ∀ k, X k = true → k < w7.heap.size := fun k hk => Nat.lt_of_lt_of_le (hX5 k hk) hG2.size
        refine (cover_any X ro raw cr rn rh w7 (hr5.mono LeafR.mono (mk_ext hG2)) hrl' hLl' hX7).mono ?_
        rintro e w8 ⟨hF3, rfl⟩
        have hG3 := hG2.trans hF3
        go_wp2_with fail
        refine (refcover_any X ro raw cr rn rh w8 (hr5.mono LeafR.mono (mk_ext hG3)) hrl' hcr hLl' (fun k hk => Nat.lt_of_lt_of_le (hX7 k hk) hF3.size)).mono ?_
        rintro e w9 ⟨hF4, rfl⟩
        have hG4 := hG3.trans hF4
        obtain ⟨b2, hb⟩ : ∃ b, coverB rn rh raw = b := ⟨_, rfl⟩
        rw [hb]
        clear hb
        go_wp2_with fail
        have hX9 : ∀ k, X k = true → k < w9.heap.size := fun k hk => Nat.lt_of_lt_of_le (hX5 k hk) hG4.size
        refine (cover_any X ro raw cr n h w9 (hr5.mono LeafR.mono (mk_ext hG4)) hrl' hLl' hX9).mono ?_
        rintro e wa ⟨hF5, rfl⟩
        have hG5 := hG4.trans hF5
        go_wp2_with fail
        refine (refcover_any X ro raw cr n h wa (hr5.mono LeafR.mono (mk_ext hG5)) hrl' hcr hLl' (fun k hk => Nat.lt_of_lt_of_le (hX9 k hk) hF5.size)).mono ?_
        rintro e wb ⟨hF6, rfl⟩
        have hG6 := hG5.trans hF6
        obtain ⟨b3, hb⟩ : ∃ b, coverB n h raw = b := ⟨_, rfl⟩
        rw [hb]
        clear hb
        go_wp2_with fail
        refine (awake_any wb).mono ?_
        rintro e wd ⟨hF7, rfl⟩
        have hG7 := hE9.trans (hG6.trans hF7)
        go_wp2_with fail
        go_ret
        exact ⟨hG7, rfl⟩
end Go.Proofs.Ytblifbnbjffgkaa
