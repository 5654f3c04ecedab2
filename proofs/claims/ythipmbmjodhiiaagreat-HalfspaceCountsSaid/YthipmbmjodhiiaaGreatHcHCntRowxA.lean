/- law 25: HalfspaceCounts. Conditions: none. -/
import Derived.Test.YthipmbmjodhiiaaGreatHcK
namespace Go.Rep
open Go.RowKit Go.Lim
theorem light_m2 {m : List (List RawQ)} {r c : Nat} (h : Go.Proofs.YthipmbmjodhiiaaGreat.lightM m r c = true) : m.length <= r /\ ∀ x ∈ m, x.length <= c /\ ∀ q ∈ x, Few 8 q := by
  have h1 := of_decide_eq_true h
  exact ⟨h1.1, fun x hx => of_decide_eq_true (h1.2 x hx)⟩
theorem light_l2 {l : List RawQ} {c : Nat} (h : Go.Proofs.YthipmbmjodhiiaaGreat.lightL l c = true) : l.length <= c /\ ∀ q ∈ l, Few 8 q := of_decide_eq_true h
theorem Few.big {x : RawQ} (h : Few 8 x) : Few 68719476736 x := ⟨Nat.le_trans h.1 (by decide), Nat.le_trans h.2 (by decide)⟩
end Go.Rep
namespace Go.Proofs.YthipmbmjodhiiaaGreat
open Go.RowKit Go.Rep Go.Lim Go.Lin
theorem slRatsss : SliceT Tryz.prog 54 25 1 24 (.slice none 0 0) := ⟨Tryz.underlying54, by kernel_rfl⟩
theorem lit_two (w : World) (a1 a2 : Option Addr) (n1 n2 c1 c2 : Nat) (m1 m2 : List (List Rat)) (e : TypeId) (h1 : MV (mk noY w) (.slice a1 n1 c1) m1) (h2 : MV (mk noY w) (.slice a2 n2 c2) m2) :
    Sl MV 1 (mk noY (w.alloc (.cells #[.slice a1 n1 c1, .slice a2 n2 c2] e))) (some ⟨w.heap.size, 0, none⟩) [m1, m2] :=
  (OL.lit (SlV.elem RV.elem) (hnoX w) (Nat.le_refl _) [.slice a1 n1 c1, .slice a2 n2 c2] [m1, m2] _ (by simp [cellsL, Value.cells]) rfl (fun i hi _ => by
    match i, hi with
    | 0, _ => exact h1
    | 1, _ => exact h2) (by simp)).sl (SlV.elem RV.elem)
theorem noX_le3 (X : Nat -> Bool) (w : World) : Le (mk X w) (mk noY w) := mk_sub fun k _ hk => by simp [noY] at hk
set_option maxRecDepth 100000 in
set_option maxHeartbeats 3200000 in
theorem hcounts_any (lo : Option Addr) (l : List Int) (cl : Nat) (ua ub uv : Value) (ra rb : List (List RawQ)) (rx : List RawQ) (w : World) (hl : Sl (IntIn .i64) 1 w.cell? lo l) (hcl : l.length <= cl) (hlb : l.length <= 9223372036854775807)
    (hua : MR (mk noY w) ua ra) (hub : MR (mk noY w) ub rb) (huv : RR (mk noY w) uv rx) :
    Calls Tryz.prog 7 #[.slice lo l.length cl, ua, ub, uv] w (BOut w true) := by
  have l1 := lightmat_any noY w ua ra 200 200 hua (by decide) (by decide)
  have l2 := hid (fun w' (h : Ext w w') => lightmat_any noY w' ub rb 200 200 (mkx MR.mono hub h) (by decide) (by decide))
  have l3 := hid (fun w' (h : Ext w w') => lightlist_any noY w' uv rx 200 (mkx RR.mono huv h) (by decide))
  cases h1 : lightM ra 200 200
  · rw [h1] at l1
    clear h1
    go_enter Tryz.func7, Tryz.ntmps7
    go_wp2_with fail
    refine l1.mono ?_
    rintro e w1 ⟨hE1, rfl⟩
    clear l1
    go_wp2_with fail
    refine (awake25_any w1).mono ?_
    rintro e w2 ⟨hE2, rfl⟩
    go_wp2_with fail
    go_ret
    exact ⟨hE1.trans hE2, rfl⟩
  rw [h1] at l1
  cases h2 : lightM rb 200 200
  · rw [h2] at l2
    clear h1 h2
    go_enter Tryz.func7, Tryz.ntmps7
    go_wp2_with fail
    refine l1.mono ?_
    rintro e w1 ⟨hE1, rfl⟩
    have l22 := l2.out w1 hE1
    clear l1
    go_wp2_with fail
    refine l22.mono ?_
    rintro e w2 ⟨hE2, rfl⟩
    clear l22
    go_wp2_with fail
    refine (awake25_any w2).mono ?_
    rintro e w3 ⟨hE3, rfl⟩
    go_wp2_with fail
    go_ret
    exact ⟨hE1.trans (hE2.trans hE3), rfl⟩
  rw [h2] at l2
  cases h3 : lightL rx 200
  · rw [h3] at l3
    clear h1 h2 h3
    go_enter Tryz.func7, Tryz.ntmps7
    go_wp2_with fail
    refine l1.mono ?_
    rintro e w1 ⟨hE1, rfl⟩
    have l22 := l2.out w1 hE1
    clear l1
    go_wp2_with fail
    refine l22.mono ?_
    rintro e w2 ⟨hE2, rfl⟩
    have l33 := l3.out w2 (hE1.trans hE2)
    clear l22
    go_wp2_with fail
    refine l33.mono ?_
    rintro e w3 ⟨hE3, rfl⟩
    clear l33
    go_wp2_with fail
    refine (awake25_any w3).mono ?_
    rintro e w4 ⟨hE4, rfl⟩
    go_wp2_with fail
    go_ret
    exact ⟨hE1.trans (hE2.trans (hE3.trans hE4)), rfl⟩
  rw [h3] at l3
  obtain ⟨n1, f1⟩ := light_m2 h1
  obtain ⟨n2, f2⟩ := light_m2 h2
  obtain ⟨n3, f3⟩ := light_l2 h3
  have hma := hua.mv (fun r hr x hx => ((f1 r hr).2 x hx).big)
  have hmb := hub.mv (fun r hr x hx => ((f2 r hr).2 x hx).big)
  have hrv := huv.rv (fun x hx => (f3 x hx).big)
  have ba := hua.bm (fun r hr => (f1 r hr).2) (by decide)
  have bb := hub.bm (fun r hr => (f2 r hr).2) (by decide)
  have bv := huv.br f3 (by decide)
  obtain ⟨Ra, hRa⟩ : ∃ Ra, valM ra = Ra := ⟨_, rfl⟩
  obtain ⟨Rb, hRb⟩ : ∃ Rb, valM rb = Rb := ⟨_, rfl⟩
  obtain ⟨Rx, hRx⟩ : ∃ Rx, rx.map valQ = Rx := ⟨_, rfl⟩
  rw [hRa] at hma ba
  rw [hRb] at hmb bb
  rw [hRx] at hrv bv
  obtain ⟨aa, ca, rfl, hca, hsa⟩ := hma
  obtain ⟨ab, cb, rfl, hcb, hsb⟩ := hmb
  obtain ⟨ax, cx, rfl, hcx, hsx⟩ := hrv
  obtain ⟨na, hna⟩ : ∃ na, Ra.length = na := ⟨_, rfl⟩
  obtain ⟨nb, hnb⟩ : ∃ nb, Rb.length = nb := ⟨_, rfl⟩
  obtain ⟨nx, hnx⟩ : ∃ nx, Rx.length = nx := ⟨_, rfl⟩
  have hMa : MV (mk noY w) (.slice aa na ca) Ra := ⟨aa, ca, by rw [hna], hca, hsa⟩
  have hMb : MV (mk noY w) (.slice ab nb cb) Rb := ⟨ab, cb, by rw [hnb], hcb, hsb⟩
  have hMx : RV (mk noY w) (.slice ax nx cx) Rx := ⟨ax, cx, by rw [hnx], hcx, hsx⟩
  have hMa' := hid hMa
  have hMb' := hid hMb
  have hMx' := hid hMx
  have hna' := hid hna
  have hnb' := hid hnb
  rw [hna] at l1 hca |-
  rw [hnb] at l2 |-
  rw [hnx] at l3 |-
  clear h1 h2 h3 f1 f2 f3 n1 n2 n3 hua hub huv hRa hRb hRx hsa hsb hsx hMa hMb hMx hca hcb hcx hna hnb hnx
  go_enter Tryz.func7, Tryz.ntmps7
  go_wp2_with fail
  refine l1.mono ?_
  rintro e v1 ⟨hG1, rfl⟩
  have l22 := l2.out v1 hG1
  clear l1
  go_wp2_with fail
  refine l22.mono ?_
  rintro e v2 ⟨hG2, rfl⟩
  have l33 := l3.out v2 (hG1.trans hG2)
  clear l22
  go_wp2_with fail
  refine l33.mono ?_
  rintro e v3 ⟨hG3, rfl⟩
  have hEv := hG1.trans (hG2.trans hG3)
  clear l33 l2 l3
  by_cases hbig : 20 < na \/ 10 < nb \/ 10 < nx
  · rcases (by omega : 20 < na \/ (na <= 20 /\ 10 < nb) \/ (na <= 20 /\ nb <= 10 /\ 10 < nx)) with hc | hc | hc
    all_goals
      clear hbig
      go_wp2_with fail
      refine (awake25_any v3).mono ?_
      rintro e w4 ⟨hE4, rfl⟩
      go_wp2_with fail
      go_ret
      exact ⟨hEv.trans hE4, rfl⟩
  have b1 : na <= 20 := by omega
  have b2 : nb <= 10 := by omega
  have b3 : nx <= 10 := by omega
  clear hbig hG1 hG2 hG3
  have hlv : Sl (IntIn .i64) 1 v3.cell? lo l := by
    rw [<- mk_noY] at hl |-
    exact hl.mono (IntIn.mono _) (mk_ext hEv)
  go_wp2_with fail
  refine (tnew_any lo l cl v3 hlv hcl hlb).mono ?_
  rintro e w1 ⟨rfl, hE1, ht1, hsz1⟩
  obtain ⟨tb, htb⟩ : ∃ tb, v3.heap.size = tb := ⟨_, rfl⟩
  have hX1 : HX (tbm tb) w1 := fun k hk => by
    have : k = tb := by simpa [tbm] using hk
    omega
  have hfin := hid (fun w2 (h : ExtX (tbm tb) w1 w2) => (hEv.trans (hE1.then_ h fun i hi _ => tbm_ne (by omega)) : Ext w w2))
  rw [htb] at ht1 |-
  obtain ⟨X, hX⟩ : ∃ X, tbm tb = X := ⟨_, rfl⟩
  have hsub : ∀ k, tbm tb k = true -> X k = true := fun k hk => by rw [<- hX]; exact hk
  rw [hX] at ht1 hX1
  have hXe := hid hX
  clear hE1 hsz1 htb hl hlv hX
  go_wp2_with fail
  refine (tany_any X tb 8 w1 ht1 hX1 (by decide) (by decide)).mono ?_
  rintro e w2 ⟨hE2, ht2, v2', p, rfl, hp, hpB, hpl, hpr⟩
  have hX2 := hX1.ext hE2
  go_wp2_with fail
  refine (tat_any X tb w2 v2' p 510 4 ht2 hX2 hp (by omega) hpB hpr (by decide) (by decide) (by decide)).mono ?_
  rintro e w3 ⟨hE3, ht3, yv, y, rfl, hy, hyB, hyl⟩
  have hX3 := hX2.ext hE3
  have hp3 := MV.mono _ _ _ _ (mk_mono hE3 hsub) hp
  have hF3 := hE2.trans hE3
  obtain ⟨po, pc, rfl, hpc, hps⟩ := hp3
  obtain ⟨ya, yc, rfl, hyc, hys⟩ := hy
  obtain ⟨np, hnp⟩ : ∃ np, p.length = np := ⟨_, rfl⟩
  obtain ⟨c, hc⟩ : ∃ c, y.length = c := ⟨_, rfl⟩
  have hP3 : Hid (MV (mk X w3) (.slice po np pc) p) := hid ⟨po, pc, by rw [hnp], hpc, hps⟩
  have hY3 : Hid (RV (mk X w3) (.slice ya c yc) y) := hid ⟨ya, yc, by rw [hc], hyc, hys⟩
  have hnp65 : np <= 65 := by omega
  have hnp' := hid hnp
  rw [hnp]
  rw [hc] at hyl |-
  clear hE2 hE3 ht2 ht1 hX1 hX2 hp hps hys hpc hyc hnp hc hpl hpr
  go_wp2_with fail
  refine (next_any X tb 4 w3 ht3 (by omega)).mono ?_
  rintro e w4 ⟨hE4, ht4, i0, rfl, hi0⟩
  have hi4 : i0 < 4 := by omega
  have hF4 := hF3.trans hE4
  have hX4 := hX3.ext hE4
  have hP4 := hid (MV.mono _ _ _ _ (mk_mono hE4 hsub) hP3.out)
  have hY4 := hid (RV.mono _ _ _ _ (mk_mono hE4 hsub) hY3.out)
  clear hF3 hE4 ht3 hX3 hi0 hP3 hY3
  obtain ⟨wo, hwo⟩ : ∃ wo, wo = w4 := ⟨_, rfl⟩
  subst hwo
  go_wp2_with fail
  go_loopw [12, 13] (fun s cc wr => ∃ (i q : Nat) (oo : Option Addr) (co : Nat) (us : List (List Rat)), cc = .int .i64 i /\ s = .slice oo q co /\ us.length = q /\ i + q <= 3 /\ BM 3 us /\ OL RV 1 X wo.heap.size 27 wr oo co us /\ TapeR (un X oo) tb wr /\ ExtX (tbm tb) wo wr) (fun _ cc _ => (intOf cc).toNat)
  case atStart => exact ⟨i0, 0, none, 0, [], rfl, rfl, rfl, by omega, fun r hr => by simp at hr, OL.nil _ _ _ _ _ _, ht4.none, ExtX.refl _⟩
  case round =>
    have htX := ht4.1
    clear ht4
    obtain ⟨i, q, oo, co, us, rfl, rfl, hq, hiq, huB, hO, htr, hE⟩ := hrel
    have hXr : HX X wr := hX4.ext hE
    have hXu : HX (un X oo) wr := hO.unX hXr
    by_cases hi : 0 < i
    · obtain ⟨i, rfl⟩ : ∃ j, i = j + 1 := ⟨i - 1, by omega⟩
      have hq' := hid hq
      go_wp2_with fail
      refine (toddrow_any (un X oo) tb c wr htr hXu (by omega)).mono ?_
      rintro e w5 ⟨hE5, po2, r, pc2, rfl, hrl, hrc, hrB, ht5, hP⟩
      have hO5 := hO.ext RV.elem hE5 (fun k _ hk => hsub k hk) (fun _ _ h => h)
      have hF5 := hE.trans hE5
      have hX5 := hX4.ext hF5
      have hRV : RV (mk (un X oo) w5) (.slice po2 c pc2) r := ⟨po2, pc2, by rw [hrl], by rw [hrl]; exact hrc, hP.sl QV.elem⟩
      have ht5u : TapeR (un X oo) tb w5 := ht5.unX (un_left htX)
      have hb5 := hF5.size
      have hl2 : (us ++ [r]).length = q + 1 := by rw [List.length_append, hq]; rfl
      have hB2 : BM 3 (us ++ [r]) := fun x hx => by
        rcases List.mem_append.1 hx with h | h
        · exact huB x h
        · rw [List.mem_singleton.1 h]; exact hrB
      clear hO htr hE hE5 ht5 hP hq hrl hXr hXu
      go_wp2_with (at_builtin; refine st_append1n (l := us) slRats rfl RV.elem hb5 hX5 q hq'.out rfl rfl hO5 (.slice po2 c pc2) r rfl hRV (by omega) (by omega) ?_; intro oo2 co2 w7 hO7 hE7 hor)
      have hE8 := hF5.own hO5 (Nat.le_refl _) hE7
      have ht8 := ht5u.unstep (hO5.not_ob htX) hE7 hor
      go_roundw
      case rel => exact ⟨i, q + 1, oo2, co2, _, by go_num, by go_num, hl2, by omega, hB2, hO7, ht8, hE8⟩
      case measure => simp [intOf]
    · have hEw : Ext w wr := hfin.out wr (by rw [hXe.out] at *; exact hF4.trans hE)
      have A1 : MV (mk noY wr) (.slice po np pc) p := MV.mono _ _ _ _ (noX_le3 X wr) (MV.mono _ _ _ _ (mk_mono hE hsub) hP4.out)
      have A2 : RV (mk noY wr) (.slice ya c yc) y := RV.mono _ _ _ _ (noX_le3 X wr) (RV.mono _ _ _ _ (mk_mono hE hsub) hY4.out)
      have A3 : MV (mk noY wr) (.slice oo q co) us := MV.mono _ _ _ _ (noX_le3 X wr) ⟨oo, co, by rw [hq], hO.lenCap, hO.sl RV.elem⟩
      have A4 := mkx MV.mono hMa'.out hEw
      have A5 := mkx MV.mono hMb'.out hEw
      have A6 := mkx RV.mono hMx'.out hEw
      have q3 : q <= 3 := by omega
      have hq' := hid hq
      clear hO htr hXr hXu hE hF4 hX4 hP4 hY4 hMa' hMb' hMx' hq
      have hT1 := lit_two wr po aa np na pc ca p Ra 25 A1 A4
      have hEt1 : Ext wr (wr.alloc (.cells #[.slice po np pc, .slice aa na ca] 25)) := (ExtX.refl _).alloc _
      obtain ⟨wa, hwa⟩ : ∃ wa, wr.alloc (.cells #[.slice po np pc, .slice aa na ca] 25) = wa := ⟨_, rfl⟩
      obtain ⟨ga, hga⟩ : ∃ ga : Option Addr, some ⟨wr.heap.size, 0, none⟩ = ga := ⟨_, rfl⟩
      obtain ⟨LA, hLA⟩ : ∃ LA : List (List (List Rat)), [p, Ra] = LA := ⟨_, rfl⟩
      have hLAl : Hid (LA.length = 2) := hid (by rw [<- hLA]; rfl)
      have hLAp : Hid (∀ m ∈ LA, m.length <= 1000 /\ BM 1023 m) := hid fun m hm => by
        subst hLA
        simp only [List.mem_cons, List.not_mem_nil, or_false] at hm
        rcases hm with rfl | rfl
        · exact ⟨by rw [hnp'.out]; omega, hpB.le (by decide)⟩
        · exact ⟨by rw [hna'.out]; omega, ba.le (by decide)⟩
      rw [hwa, hga, hLA] at hT1
      rw [hwa] at hEt1
      have hhA := hT1.hd
      rw [hLAl.out] at hhA
      have hLBp : Hid (∀ m ∈ [us, Rb], m.length <= 1000 /\ BM 8 m) := hid fun m hm => by
        simp only [List.mem_cons, List.not_mem_nil, or_false] at hm
        rcases hm with rfl | rfl
        · exact ⟨by rw [hq'.out]; omega, huB.le (by decide)⟩
        · exact ⟨by rw [hnb'.out]; omega, bb⟩
      have hyB' := hid hyB
      have bv' : Hid (BR 1023 Rx) := hid fun q hq => Nat.le_trans (bv q hq) (by decide)
      clear hLA
      go_wp2_with fail
      go_loopw [78] (fun cx wx => ∃ k : Nat, cx = .int .i64 k /\ k <= 2 /\ Ext wa wx) (fun cx _ => 2 - (intOf cx).toNat)
      case atStart => exact ⟨0, rfl, Nat.zero_le _, ExtX.refl _⟩
      case round =>
        obtain ⟨k, rfl, hk, hEk⟩ := hrel
        by_cases hlk : k < 2
        · have hkL : k < LA.length := by rw [hLAl.out]; exact hlk
          obtain ⟨qa, qc, k00, hql, hqs⟩ := (hT1.mono MV.mono (mk_ext hEk)).slice k hkL
          obtain ⟨hQ1, hQ2⟩ := hLAp.out LA[k] (List.getElem_mem _)
          have hQV : MV (mk noY wr) (.slice qa LA[k].length qc) LA[k] := ⟨qa, qc, rfl, hql, hqs⟩
          obtain ⟨Q, hQ⟩ : ∃ Q, LA[k] = Q := ⟨_, rfl⟩
          rw [hQ] at k00 hQ1 hQ2 hQV
          obtain ⟨nq, hnq⟩ : ∃ nq, Q.length = nq := ⟨_, rfl⟩
          have hnq' := hid hnq
          rw [hnq] at k00 hQV
          have A3' := mkx MV.mono A3 (hEt1.trans hEk)
          have A5' := mkx MV.mono A5 (hEt1.trans hEk)
          have A2' := mkx RV.mono A2 (hEt1.trans hEk)
          have A6' := mkx RV.mono A6 (hEt1.trans hEk)
          clear hQ hnq hqs hql
          have hT2 := lit_two wr oo ab q nb co cb us Rb 25 A3' A5'
          have hEt2 : Ext wr (wr.alloc (.cells #[.slice oo q co, .slice ab nb cb] 25)) := (ExtX.refl _).alloc _
          obtain ⟨wb, hwb⟩ : ∃ wb, wr.alloc (.cells #[.slice oo q co, .slice ab nb cb] 25) = wb := ⟨_, rfl⟩
          obtain ⟨gb, hgb⟩ : ∃ gb : Option Addr, some ⟨wr.heap.size, 0, none⟩ = gb := ⟨_, rfl⟩
          obtain ⟨LB, hLB⟩ : ∃ LB : List (List (List Rat)), [us, Rb] = LB := ⟨_, rfl⟩
          have hLBl : Hid (LB.length = 2) := hid (by rw [<- hLB]; rfl)
          have hLBp2 := hid hLBp.out
          rw [hLB] at hLBp2
          rw [hwb, hgb, hLB] at hT2
          rw [hwb] at hEt2
          have hhB := hT2.hd
          rw [hLBl.out] at hhB
          obtain ⟨wi, hwi⟩ : ∃ wi, wi = wr := ⟨_, rfl⟩
          subst hwi
          clear hLB
          go_wp2_with (with_reducible refine up_ix1 slRatsss (by omega) (by assumption) ?_)
          go_loopw [86] (fun cx wx => ∃ j : Nat, cx = .int .i64 j /\ j <= 2 /\ Ext wb wx) (fun cx _ => 2 - (intOf cx).toNat)
          case atStart => exact ⟨0, rfl, Nat.zero_le _, ExtX.refl _⟩
          case round =>
            obtain ⟨j, rfl, hj, hEj⟩ := hrel
            clear k00
            by_cases hlj : j < 2
            · have hjL : j < LB.length := by rw [hLBl.out]; exact hlj
              obtain ⟨sa, sc, k01, hsl, hss⟩ := (hT2.mono MV.mono (mk_ext hEj)).slice j hjL
              obtain ⟨hS1, hS2⟩ := hLBp2.out LB[j] (List.getElem_mem _)
              have hSV : MV (mk noY wr) (.slice sa LB[j].length sc) LB[j] := ⟨sa, sc, rfl, hsl, hss⟩
              obtain ⟨S, hS⟩ : ∃ S, LB[j] = S := ⟨_, rfl⟩
              rw [hS] at k01 hS1 hS2 hSV
              obtain ⟨ns, hns⟩ : ∃ ns, S.length = ns := ⟨_, rfl⟩
              rw [hns] at k01 hSV
              have hEij := hEt2.trans hEj
              have P1 := hid (fun w' (h : Ext wr w') => hcount_any noY w' (.slice qa nq qc) (.slice ya c yc) (.slice sa ns sc) Q y S 1023 8 (hnoX w') (mkx MV.mono hQV (hEij.trans h)) (mkx RV.mono A2' (hEij.trans h)) (mkx MV.mono hSV h) hQ1 hS1 hQ2 hyB'.out hS2 (by decide) (by decide) (by decide))
              have P2 := hid (fun w' (h : Ext wr w') => rcount_any noY w' (.slice qa nq qc) (.slice ya c yc) (.slice sa ns sc) Q y S 1023 8 (hnoX w') (mkx MV.mono hQV (hEij.trans h)) (mkx RV.mono A2' (hEij.trans h)) (mkx MV.mono hSV h) hQ1 hS1 hQ2 hyB'.out hS2 (by decide) (by decide) (by decide))
              have P3 := hid (fun w' (h : Ext wr w') => hcount_any noY w' (.slice qa nq qc) (.slice ax nx cx) (.slice sa ns sc) Q Rx S 1023 8 (hnoX w') (mkx MV.mono hQV (hEij.trans h)) (mkx RV.mono A6' (hEij.trans h)) (mkx MV.mono hSV h) hQ1 hS1 hQ2 bv'.out hS2 (by decide) (by decide) (by decide))
              have P4 := hid (fun w' (h : Ext wr w') => rcount_any noY w' (.slice qa nq qc) (.slice ax nx cx) (.slice sa ns sc) Q Rx S 1023 8 (hnoX w') (mkx MV.mono hQV (hEij.trans h)) (mkx RV.mono A6' (hEij.trans h)) (mkx MV.mono hSV h) hQ1 hS1 hQ2 bv'.out hS2 (by decide) (by decide) (by decide))
              obtain ⟨K1, hK1⟩ : ∃ K, cntV Q y S = K := ⟨_, rfl⟩
              obtain ⟨K2, hK2⟩ : ∃ K, cntV Q Rx S = K := ⟨_, rfl⟩
              obtain ⟨C1, hC1⟩ : ∃ C, okE (cntOk Q y S) = C := ⟨_, rfl⟩
              obtain ⟨C2, hC2⟩ : ∃ C, okE (cntOk Q Rx S) = C := ⟨_, rfl⟩
              rw [hK1, hC1] at P1 P2
              rw [hK2, hC2] at P3 P4
              have z1 : ((K1 : Int) != (K1 : Int)) = false := bneF rfl
              have z2 : ((K2 : Int) != (K2 : Int)) = false := bneF rfl
              have z3 : (C1 != C1) = false := bneF rfl
              have z4 : (C2 != C2) = false := bneF rfl
              clear hS hns hss hsl hK1 hK2 hC1 hC2
              obtain ⟨wj, hwj⟩ : ∃ wj, wj = wr := ⟨_, rfl⟩
              subst hwj
              go_wp2_with (with_reducible refine up_ix1 slRatsss (by omega) (by assumption) ?_)
              refine (P1.out wj (ExtX.refl _)).mono ?_
              rintro e u1 ⟨y1, rfl⟩
              clear k01
              go_wp2_with fail
              refine (P2.out u1 y1).mono ?_
              rintro e u2 ⟨y2, rfl⟩
              have y12 := y1.trans y2
              go_wp2_with fail
              refine (P3.out u2 y12).mono ?_
              rintro e u3 ⟨y3, rfl⟩
              have y13 := y12.trans y3
              go_wp2_with fail
              refine (P4.out u3 y13).mono ?_
              rintro e u4 ⟨y4, rfl⟩
              have y14 := hEj.trans (y13.trans y4)
              go_wp2_with fail
              go_roundw
              case rel => exact ⟨j + 1, by go_num, by omega, y14⟩
              case measure => simp [intOf]; omega
            · have hE9 := hEk.trans (hEt2.trans hEj)
              go_wp2_with fail
              go_roundw
              case rel => exact ⟨k + 1, by go_num, by omega, hE9⟩
              case measure => simp [intOf]; omega
        · have hE9 := hEw.trans (hEt1.trans hEk)
          go_wp2_with fail
          refine (awake25_any wr).mono ?_
          rintro e w6 ⟨hE6, rfl⟩
          go_wp2_with fail
          go_ret
          exact ⟨hE9.trans hE6, rfl⟩
end Go.Proofs.YthipmbmjodhiiaaGreat
