/- Parts of a proof: each theorem states what it proves, and its conditions. -/
import Derived.Test.YtjbhcniiioepgaaGreatHdL
namespace Go.Lin
open Go.Lim Go.Rep
theorem rN_len_mono (m : Mat) {j : Nat} : ∀ {c : Nat}, j <= c -> (rN m j).2.1.length <= (rN m c).2.1.length := by
  intro c
  induction c with
  | zero => intro h; obtain rfl : j = 0 := by omega
            exact Nat.le_refl _
  | succ c ih =>
    intro h
    rcases Nat.lt_or_ge j (c + 1) with h1 | h1
    · refine Nat.le_trans (ih (by omega)) ?_
      show _ <= (rStep (rN m c) c).2.1.length
      unfold rStep
      split
      · exact Nat.le_refl _
      · simp
    · obtain rfl : j = c + 1 := by omega
      exact Nat.le_refl _
theorem tamer_rank {n c B k : Nat} {m : Mat} (hs : Shp n c m) (h : HB B m) (hk : (redP m c).2.length <= k) (hB : 6 * (6 ^ k * B) <= 68719476736) : TameR m c := by
  rw [(red_eq hs).2] at hk
  refine ⟨6 ^ k * B, hB, fun j hj => ?_⟩
  obtain ⟨h1, h2⟩ := h.rN hs j
  have hp : 6 ^ (rN m j).2.1.length * B <= 6 ^ k * B := Nat.mul_le_mul_right _ (Nat.pow_le_pow_right (by decide) (Nat.le_trans (rN_len_mono m hj) hk))
  exact ⟨h1.mono hp, Nat.le_trans h2 hp⟩
end Go.Lin
namespace Go.Lim
theorem ch_12 (n : Nat) : ch n 1 <= n /\ ch n 2 <= n * n := by
  induction n with
  | zero => decide
  | succ n ih =>
    obtain ⟨h1, h2⟩ := ih
    have e1 : ch (n + 1) 1 = ch n 0 + ch n 1 := rfl
    have e2 : ch (n + 1) 2 = ch n 1 + ch n 2 := rfl
    rw [ch_zero] at e1
    have e3 : (n + 1) * (n + 1) = n * n + 2 * n + 1 := by rw [Nat.add_mul, Nat.mul_add]; omega
    omega
end Go.Lim
namespace Go.Proofs.YtjbhcniiioepgaaGreat
open Go.RowKit Go.Rep Go.Lim Go.Lin
theorem slIntsR : SliceT Tryz.prog 81 22 1 24 (.slice none 0 0) := ⟨Tryz.underlying81, by kernel_rfl⟩
def DepOut (w : World) (c : Nat) (z : Mat) (e : Ending) (w' : World) : Prop := Ext w w' /\ ∃ k : Nat, e = .returned (.int .i64 (k : Int)) /\ k <= z.length /\ IsDep c (vecs z) k
theorem rof (X : Nat -> Bool) (w : World) (v : Int) (hX : HX X w) (h1 : -9223372036854775808 <= v) (h2 : v <= 9223372036854775807) : Calls Tryz.prog 181 #[.int .i64 v] w (ROut X w QC v) := by
  obtain ⟨W, hW, hE, b0, hz⟩ := boxes1 w #[.bool false, .slice none 0 0, .slice none 0 0] 31
  have hXW : HX (hidB X w.heap.size 1) W := hX.boxes hz
  obtain ⟨b, hb⟩ : ∃ b, w.heap.size = b := ⟨_, rfl⟩
  have hbw : w.heap.size <= b := by omega
  rw [hb] at b0 hz hXW
  have h1' := hid h1
  have h2' := hid h2
  clear h1 h2
  go_enter Tryz.func181, Tryz.ntmps181
  go_wp2_with fail
  refine (rqfrom (hidB X b 1) W v hXW h1'.out h2'.out).mono ?_
  rintro e1 w1 ⟨hE1, u1, rfl, hu1⟩
  obtain ⟨s6, a6, n6, c6, d6, k6, e6, rfl⟩ := hu1.shape
  have b1' := b0.ext0 hE1
  go_wp2_with ((with_reducible show wpList _ _ _ (⟨_, .store _ _ _, _, _, _, _⟩ :: _) _ _); refine st_storeBox stRat rfl rfl b1' rfl rfl (one3 _ _ _ _ _ _ _) ?_; intro w7 r1 r2)
  have h7 := QC.mono _ _ _ _ le_unbox (QC.mono _ _ _ _ (le_store r2 (by omega) (by omega)) hu1)
  exact bodyPost_ret (results_box rfl rfl stRat r1 rfl) rfl ⟨ExtX.box (hE.trans hE1) r2 (by omega), _, rfl, h7⟩
set_option maxRecDepth 100000 in
set_option maxHeartbeats 3200000 in
theorem rleast_any : ∀ (n : Nat) (X : Nat -> Bool) (w : World) (u : Value) (z : List (List Rat)) (c B : Nat), HX X w -> MV (mk X w) u z -> Shp n c z -> n <= 64 -> 1 <= c -> c <= 3 -> BM B z -> 1 <= B -> B <= 6500 ->
    Calls Tryz.prog 130 #[u] w (DepOut w c z) := by
  intro n
  induction n using Nat.strongRecOn with
  | _ n ih =>
  intro X w u z c B hX hu hs hn hc1 hc3 hzB hB1 hB
  have ih' := hid ih
  clear ih
  obtain ⟨p, hp, hred⟩ : ∃ p : List Nat, (p = [] -> IsDep c (vecs z) n) /\ (p ≠ [] -> p = (redP z c).2) /\ Calls Tryz.prog 34 #[u] w (fun e w' => Ext w w' /\ ∃ ov po pc, e = .returned (.tuple #[ov, .slice po p.length pc, .int .i64 0]) /\ p.length <= pc /\ Sl (NatIn .i64) 1 (mk X w') po p) := by
    have hzl := hs.1
    by_cases h0 : n = 0
    · subst h0
      obtain rfl : z = [] := List.eq_nil_of_length_eq_zero hzl
      refine ⟨[], fun _ => dep_nil (by omega), fun h => absurd rfl h, (rredu_ok X w u [] 0 0 hX hu rfl rfl rfl ?_).mono ?_⟩
      · exact tamer_of (n := 0) (B := 1) ⟨rfl, fun r hr => by simp at hr⟩ (fun i j => by unfold ent; simp [hq_zero]) (by decide)
      · rintro e w' ⟨h1, oo, co, po, pc, h2, h3, h4, h5, h6⟩
        exact ⟨h1, _, po, pc, h2, h4, h6⟩
    · obtain ⟨hf, hcol⟩ := formedB_of hs (by omega) hc1 (by omega) (by omega)
      have hhb := bm_hb hzB hB1
      have hT := tamer_rank hs hhb (piv_le_cols hs) (by
        have h1 : 6 ^ c <= 6 ^ 3 := Nat.pow_le_pow_right (by decide) hc3
        have h2 := Nat.mul_le_mul h1 hB
        have e : 6 ^ 3 * 6500 = 1404000 := by decide
        omega)
      refine ⟨(redP z c).2, fun h => ?_, fun _ => rfl, (rredu_ok X w u z n c hX hu hf hzl hcol hT).mono ?_⟩
      · have := dep_none hs (by omega) (by rw [h]; rfl)
        rwa [hzl] at this
      · rintro e w' ⟨h1, oo, co, po, pc, h2, h3, h4, h5, h6⟩
        rw [<- (red_eq hs).2] at h2 h4 h6
        exact ⟨h1, _, po, pc, h2, h4, h6⟩
  obtain ⟨hp2, hred⟩ := hred
  have hzl : z.length = n := hs.1
  obtain ⟨d, hd⟩ : ∃ d, p.length = d := ⟨_, rfl⟩
  have hd' := hid hd
  have hpp := hid (⟨hp, hp2⟩ : (p = [] -> IsDep c (vecs z) n) /\ (p ≠ [] -> p = (redP z c).2))
  have hs' := hid hs
  have hu0 := hu
  obtain ⟨ua, uca, rfl, huca, hua⟩ := hu
  have hzl' := hid hzl
  rw [hzl] at huca hu0 hred |-
  have hpk := hid (fun w' (h : Ext w w') po pc (h1 : Sl (NatIn .i64) 1 (mk X w') po p) (h2 : p.length <= pc) (h3 : p ≠ []) => rpick_any X w' (.slice ua n uca) z po p pc c (hX.ext h) (mkx MV.mono hu0 h) hs.2 (by omega) h1 h2 (by rw [hp2 h3]; have := piv_le_cols hs; omega) (by rw [hp2 h3]; intro x hx; obtain ⟨q, hq, rfl⟩ := List.getElem_of_mem hx; exact (redP_ok hs).2.1.lt q hq))
  rw [hd] at hred
  unfold DepOut
  rw [hzl]
  have hzL := hid hzl
  clear hp hp2 hs hzl hd hua
  by_cases hd0 : d = 0
  · subst hd0
    have hdep := hid (hpp.out.1 (List.eq_nil_of_length_eq_zero hd'.out))
    go_enter Tryz.func130, Tryz.ntmps130
    go_wp2_with fail
    refine hred.mono ?_
    rintro e w1 ⟨hE1, ov, po, pc, rfl, hpc, hps⟩
    clear hred
    go_wp2_with fail
    go_ret
    exact ⟨hE1, n, rfl, Nat.le_refl _, hdep.out⟩
  have hpne : p ≠ [] := fun h => hd0 (by rw [<- hd'.out, h]; rfl)
  have hpe := hpp.out.2 hpne
  have hdep := hid (fun k (h : IsDep d (vecs (pickC z p)) k) => (dep_piv hs'.out (k := k) (by rw [<- hpe]; rw [hd'.out]; exact h)))
  have hZs : Shp n d (pickC z p) := by
    have := pickC_shp z p
    rw [hs'.out.1, hd'.out] at this; exact this
  have hZB : BM B (pickC z p) := pickC_bm hzB hB1
  have hdn : d <= n := by have := piv_le_rows hs'.out; rw [<- hpe, hd'.out] at this; exact this
  have hd3 : d <= 3 := by have := piv_le_cols hs'.out; rw [<- hpe, hd'.out] at this; omega
  have hless := hid (fun (L : List Rat) (h : nz d (vec L)) => (by
    have := ref_less hs'.out (u := L) (by rw [<- hpe, hd'.out]; exact h)
    rw [<- hpe, hd'.out, hs'.out.1] at this; exact this : (onM d L (pickC z p)).length < n))
  have hrd := hid (fun (k cnt : Nat) (hk : IsDep d (vecs (pickC z p)) k) (hkc : k <= cnt) (r : Nat) (hr : d = r + 1) (ht : ∀ I : List Nat, I.length = r -> I.Pairwise (· < ·) -> (∀ i ∈ I, i < z.length) -> Tried (r + 1) (vecs (pickC z p)) [] cnt I) => (by
    subst hr
    have h1 : (redP z c).2.length = r + 1 := by rw [<- hpe]; exact hd'.out
    rw [hpe] at hk ht
    exact ref_done hs'.out h1 hk hkc ht : IsDep c (vecs z) cnt))
  have hpk' := hid (fun w' h po pc h1 h2 => hpk.out w' h po pc h1 h2 hpne)
  obtain ⟨Z, hZ⟩ : ∃ Z, pickC z p = Z := ⟨_, rfl⟩
  rw [hZ] at hdep hZs hZB hless hrd hpk'
  obtain ⟨k, hk⟩ := dep_ex (c := d) (by omega) (vecs Z)
  have hZl : Z.length = n := hZs.1
  clear hZ hpe hpne hpp hpk hs' hc1 hc3
  by_cases hd1 : d = 1
  · subst hd1
    have h1 := dep_one Z
    rw [hZl] at h1
    have hfin := hid (hdep.out _ h1)
    have hcnt := hid (fun w' (uz uo : Value) (hX' : HX X w') (ha : MV (mk X w') uz Z) (hb : RV (mk X w') uo [1]) => rcnt_any X w' uz uo Z [1] 1 B 1 hX' ha hb hZs.2 rfl (by decide) (by omega) hZB (fun q hq => by rw [List.mem_singleton.1 hq]; decide +kernel) hB1 (by decide) (by omega))
    have hpl := posM_le 1 [1] Z
    have hnl := negM_le 1 [1] Z
    rw [hZl] at hpl hnl
    obtain ⟨P, hP⟩ : ∃ P, posM 1 [1] Z = P := ⟨_, rfl⟩
    obtain ⟨Q, hQ⟩ : ∃ Q, negM 1 [1] Z = Q := ⟨_, rfl⟩
    rw [hP, hQ] at hfin hcnt
    rw [hP] at hpl
    rw [hQ] at hnl
    have hv1 : Hid ((((1 : Int) : Rat)) = 1) := hid rfl
    have hZl' := hid hZl
    clear h1 hP hQ hdep hZs hZB hless hrd hk hd0 hZl
    go_enter Tryz.func130, Tryz.ntmps130
    go_wp2_with fail
    refine hred.mono ?_
    rintro e w1 ⟨hE1, ov, po, pc, rfl, hpc, hps⟩
    have hpk1 := hpk'.out w1 hE1 po pc hps (by rw [hd'.out]; exact hpc)
    rw [hd'.out] at hpk1
    clear hred
    go_wp2_with fail
    refine hpk1.mono ?_
    rintro e w2 ⟨hE2, u2, rfl, ao2, c2, rfl, hc2, hs2⟩
    rw [hZl'.out] at hc2 |-
    have hX2 := hX.ext (hE1.trans hE2)
    go_wp2_with fail
    refine (rof X w2 1 hX2 (by decide) (by decide)).mono ?_
    rintro e w3 ⟨hE3, u3, rfl, hu3⟩
    obtain ⟨s3, a3, n3, c3, d3, k3, e3, rfl⟩ := hu3.shape
    rw [hv1.out] at hu3
    have hX3 := hX2.ext hE3
    have hL := (lit_rat1 X w3 s3 a3 n3 c3 d3 k3 e3 1 31 hX3 hu3).sl QC.elem
    have hEl : Ext w3 (w3.alloc (.cells #[.bool s3, .slice a3 n3 c3, .slice d3 k3 e3] 31)) := (ExtX.refl _).alloc _
    have hZ4 : MV (mk X (w3.alloc (.cells #[.bool s3, .slice a3 n3 c3, .slice d3 k3 e3] 31))) (.slice ao2 n c2) Z := ⟨ao2, c2, by rw [hZl'.out], by rw [hZl'.out]; exact hc2, hs2.mono RV.mono (mk_ext (hE3.trans hEl))⟩
    have hO4 : RV (mk X (w3.alloc (.cells #[.bool s3, .slice a3 n3 c3, .slice d3 k3 e3] 31))) (.slice (some ⟨w3.heap.size, 0, none⟩) 1 1) [1] := ⟨_, _, rfl, Nat.le_refl _, hL.qv fun q hq => by rw [List.mem_singleton.1 hq]; decide +kernel⟩
    have hc4 := hcnt.out _ _ _ (hX3.ext hEl) hZ4 hO4
    clear hL hu3 hs2 hZ4 hO4
    go_wp2_with fail
    refine hc4.mono ?_
    rintro e w5 ⟨hE5, rfl⟩
    clear hc4
    go_wp2_with fail
    go_ret
    exact ⟨hE1.trans (hE2.trans (hE3.trans (hEl.trans hE5))), n - max P Q, by rw [show ((n - max P Q : Nat) : Int) = (n : Int) - max (P : Int) (Q : Int) by omega]; rfl, by omega, hfin.out⟩
  obtain ⟨r, rfl⟩ : ∃ r, d = r + 1 := ⟨d - 1, by omega⟩
  have hr1 : 1 <= r := by omega
  have hr2 : r <= 2 := by omega
  have hrn : r <= n := by omega
  have hkn : k <= n := by
    have := hk.le
    have e : (vecs Z).length = Z.length := by simp [vecs]
    omega
  have hhb := bm_hb hZB hB1
  have hmem := combs_mem n r 0
  have hsb : ∀ s ∈ combs n r 0, ∀ x ∈ s, 0 <= x /\ x < (Z.length : Int) := fun s h x hx => by
    have := (hmem s h).2.1 x hx
    rw [hZl]; omega
  have hbnd : ∀ s ∈ combs n r 0, Shp r (r + 1) (rowsL Z s) /\ formedB (rowsL Z s) = true /\ colsL (rowsL Z s) = r + 1 /\ HB B (rowsL Z s) := fun s h => by
    have h1 := rows_shp0 hZs (hsb s h)
    rw [(hmem s h).1] at h1
    obtain ⟨h2, h3⟩ := formedB_of h1 (by omega) (by omega) (by omega) (by omega)
    exact ⟨h1, h2, h3, hb_rows hhb (hsb s h)⟩
  have hnull := hid (fun w' um s (h : s ∈ combs n r 0) (hX' : HX X w') (hm : MV (mk X w') um (rowsL Z s)) => (by
    obtain ⟨h1, h2, h3, h4⟩ := hbnd s h
    have h6 : 6 ^ r <= 6 ^ 2 := Nat.pow_le_pow_right (by decide) hr2
    have h7 := Nat.mul_le_mul h6 hB
    exact rnull_ok X w' um (rowsL Z s) r (r + 1) hX' hm h2 h1.1 h3 (tamer_of h1 h4 (by
      have e : 6 ^ 2 * 6500 = 234000 := by decide
      omega)) : Calls Tryz.prog 56 #[um] w' (M2Out X w' (nullM (rowsL Z s) (r + 1)))))
  have hno := hid (fun s (h : s ∈ combs n r 0) (hl : (nullM (rowsL Z s) (r + 1)).length ≠ 1) cnt => (tried_none0 hZs (hsb s h) hl : Tried (r + 1) (vecs Z) [] cnt (s.map Int.toNat)))
  have hyes := hid (fun s (h : s ∈ combs n r 0) (hl : (nullM (rowsL Z s) (r + 1)).length = 1) L (hL : (nullM (rowsL Z s) (r + 1))[0]? = some L) => (by
    have hL := (List.getElem?_eq_some_iff.1 hL).2
    obtain ⟨h1, h2, h3⟩ := null_one0 hZs (hsb s h) hl L hL
    obtain ⟨g1, g2, g3, g4⟩ := hbnd s h
    have h5 := hb_bm (nullM_hb (k := 2) g4 g1 (by have := piv_le_rows g1; omega))
    have h6 : BR (35 ^ 2 * B) L := by rw [<- hL]; exact h5 _ (List.getElem_mem _)
    exact ⟨h1, h6, hless.out L h2, fun cnt l hc hl => ref_round hk hc h2 h3 hl⟩ :
    L.length = r + 1 /\ BR (35 ^ 2 * B) L /\ (onM (r + 1) L Z).length < n /\ ∀ cnt l, k <= cnt -> IsDep (r + 1) (vecs (onM (r + 1) L Z)) l ->
      k <= min cnt (min (posM (r + 1) L Z) (negM (r + 1) L Z) + l) /\ Tried (r + 1) (vecs Z) [] (min cnt (min (posM (r + 1) L Z) (negM (r + 1) L Z) + l)) (s.map Int.toNat)))
  have hdone := hid (fun cnt (hc : k <= cnt) (h : ∀ s ∈ combs n r 0, Tried (r + 1) (vecs Z) [] cnt (s.map Int.toNat)) => (hrd.out k cnt hk hc r rfl (by
    intro I h2 h3 h4
    exact all_tried n h I h2 h3 (by rw [hzL.out] at h4; exact h4)) : IsDep c (vecs z) cnt))
  have hch : ch n r <= 1000000 := by
    rcases (by omega : r = 1 \/ r = 2) with rfl | rfl
    · have := ch_12 n
      omega
    · have := ch_12 n
      have h := Nat.mul_le_mul hn hn
      omega
  have hclen : (combs n r 0).length <= 1000000 := by rw [combs_length]; exact hch
  have hmeml := hid (fun s (h : s ∈ combs n r 0) => (hmem s h).1)
  have hmemb := hid (fun s (h : s ∈ combs n r 0) x (hx : x ∈ s) => (by have := (hmem s h).2.1 x hx; omega : 0 <= x /\ x < (n : Int)))
  have hcom := combos_any X n r
  obtain ⟨C, hC⟩ : ∃ C, combs n r 0 = C := ⟨_, rfl⟩
  have hcom' := hid (fun w' (hX' : HX X w') => (by
    have := hcom w' hn hrn hch hX'
    unfold CombosOut at this
    rw [hC] at this
    exact this : Calls Tryz.prog 123 #[.int .i64 (n : Int), .int .i64 (r : Int)] w' (fun e w'' => Ext w' w'' /\ ∃ (oo : Option Addr) (co : Nat), e = .returned (.slice oo C.length co) /\ C.length <= co /\ OL (SlV (IntIn .i64) 1) 1 X w'.heap.size 22 w'' oo co C)))
  rw [hC] at hnull hno hyes hdone hclen hmeml hmemb
  have hrr : ((r + 1 : Nat) : Int) - 1 = (r : Int) := by omega
  have hZl' := hid hZl
  have hZs' := hid hZs
  have hZB' := hid hZB
  clear hhb hmem hsb hbnd hcom hC hdep hrd hk hless hZs hZB hZl hd0 hdn hch
  go_enter Tryz.func130, Tryz.ntmps130
  go_wp2_with fail
  refine hred.mono ?_
  rintro e w1 ⟨hE1, ov, po, pc, rfl, hpc, hps⟩
  have hpk1 := hpk'.out w1 hE1 po pc hps (by rw [hd'.out]; exact hpc)
  rw [hd'.out] at hpk1
  clear hred
  have hd1' : (((r + 1 : Nat) : Int) == 1) = false := beqF (by omega)
  have hd0' : (((r + 1 : Nat) : Int) == 0) = false := beqF (by omega)
  go_wp2_with fail
  refine hpk1.mono ?_
  rintro e w2 ⟨hE2, u2, rfl, za, zc, rfl, hzc, hzs⟩
  rw [hZl'.out] at hzc |-
  have hhz : Hd za n := by have := hzs.hd; rw [hZl'.out] at this; exact this
  have hE12 := hE1.trans hE2
  have hX2 := hX.ext hE12
  clear hpk1 hE1 hE2 hps hpc
  go_wp2_with fail
  refine (hcom'.out w2 hX2).mono ?_
  rintro e w3 ⟨hE3, co, cc, rfl, hcc, hCO⟩
  have hsc := hCO.sl (SlV.elem (IntIn.elem .i64))
  have hhc := hsc.hd
  have hE13 := hE12.trans hE3
  have hX3 := hX2.ext hE3
  have hz3 := hzs.mono RV.mono (mk_ext hE3)
  obtain ⟨K, hK⟩ : ∃ K, C.length = K := ⟨_, rfl⟩
  have hK' := hid hK
  rw [hK] at hcc hhc hclen |-
  clear hCO hE3 hX2 hE12 hzs hcom' hK
  go_wp2_with fail
  go_loopw [9, 61] (fun a cx wr => ∃ (q cnt : Nat), cx = .int .i64 q /\ q <= K /\ a = .int .i64 (cnt : Int) /\ k <= cnt /\ cnt <= n /\ Hid (∀ s ∈ C.take q, Tried (r + 1) (vecs Z) [] cnt (s.map Int.toNat)) /\ Ext w3 wr) (fun _ cx _ => K - (intOf cx).toNat)
  case atStart => exact ⟨0, n, rfl, Nat.zero_le _, rfl, hkn, Nat.le_refl _, hid (fun s hs => by simp at hs), ExtX.refl _⟩
  case round =>
    obtain ⟨q, cnt, rfl, hq, rfl, hkc, hcn, hT, hE⟩ := hrel
    have hXr := hX3.ext hE
    by_cases hlt : q < K
    · have hqC : q < C.length := by rw [hK'.out]; exact hlt
      obtain ⟨so, sc, f37, h3', s3⟩ := hsc.slice q hqC
      have f3 := hE.cell f37
      have hsm : C[q] ∈ C := List.getElem_mem _
      have hnu := hid (fun w' um => hnull.out w' um C[q] hsm)
      have hno1 := hid (hno.out C[q] hsm)
      have hye1 := hid (hyes.out C[q] hsm)
      have hsl := hid (hmeml.out C[q] hsm)
      have hsbb := hid (hmemb.out C[q] hsm)
      have hTn := hid (fun cnt' (hle : cnt' <= cnt) (h : Tried (r + 1) (vecs Z) [] cnt' (C[q].map Int.toNat)) => (by
        intro s hs
        rw [<- List.take_append_getElem hqC] at hs
        rcases List.mem_append.1 hs with h2 | h2
        · exact (hT.out s h2).le hle
        · rw [List.mem_singleton.1 h2]; exact h : ∀ s ∈ C.take (q + 1), Tried (r + 1) (vecs Z) [] cnt' (s.map Int.toNat)))
      have hsr := s3.mono (IntIn.mono _) (mk_ext hE)
      have hhs := hsr.hd
      obtain ⟨s, hs⟩ : ∃ s, C[q] = s := ⟨_, rfl⟩
      rw [hs] at f3 h3' hnu hno1 hsl hsbb hTn hhs hsr
      have hye2 : Hid (∀ (hl : (nullM (rowsL Z s) (r + 1)).length = 1) L (_ : (nullM (rowsL Z s) (r + 1))[0]? = some L), L.length = r + 1 /\ BR (35 ^ 2 * B) L /\ (onM (r + 1) L Z).length < n /\ ∀ cnt l, k <= cnt -> IsDep (r + 1) (vecs (onM (r + 1) L Z)) l ->
        k <= min cnt (min (posM (r + 1) L Z) (negM (r + 1) L Z) + l) /\ Tried (r + 1) (vecs Z) [] (min cnt (min (posM (r + 1) L Z) (negM (r + 1) L Z) + l)) (s.map Int.toNat)) := by subst hs; exact hye1
      obtain ⟨M, hM⟩ : ∃ M, rowsL Z s = M := ⟨_, rfl⟩
      have hMl : M.length = s.length := by rw [<- hM]; exact rowsL_len Z s
      have hMi := hid (show ∀ j (h1 : j < M.length) (h2 : j < s.length) (i : Nat) (h3 : i < Z.length), s[j] = (i : Int) -> M[j] = Z[i] from fun j h1 h2 i h3 h => by subst hM; exact rowsL_get h1 h2 h3 h)
      rw [hM] at hnu hno1 hye2
      rw [hsl.out] at f3 h3' hhs hMl
      have hMl' := hid hMl
      have hMl1 : M.length <= r := by omega
      have hMl2 : r <= M.length := by omega
      clear hM hMl hs s3 f37 hye1
      obtain ⟨wo, hwo⟩ : ∃ wo, wo = wr := ⟨_, rfl⟩
      subst hwo
      go_wp2_with (with_reducible refine up_ix1 slIntsR (by omega) (by assumption) ?_)
      go_loopw [12, 67] (fun o cx wx => ∃ (j : Nat) (mo : Option Addr) (mc : Nat), cx = .int .i64 j /\ o = .slice mo j mc /\ j <= r /\ OL RV 1 X wo.heap.size 33 wx mo mc (M.take j) /\ Ext wo wx) (fun _ cx _ => r - (intOf cx).toNat)
      case atStart => exact ⟨0, none, 0, rfl, rfl, Nat.zero_le _, OL.nil _ _ _ _ _ _, ExtX.refl _⟩
      case round =>
        obtain ⟨j, mo, mc, rfl, rfl, hj, hO, hEj⟩ := hrel
        have hXj : HX X wr := hXr.ext hEj
        have hbj := hEj.size
        clear f3
        by_cases hlj : j < r
        · have hjs : j < s.length := by rw [hsl.out]; exact hlj
          have hjM : j < M.length := by omega
          have htk := hid (take_snoc M j hjM)
          have hln := hid (len_take (l := M) (i := j) (by omega))
          have hcj := (hsr.mono (IntIn.mono _) (mk_ext hEj)).int j hjs
          obtain ⟨h1, h2⟩ := hsbb.out s[j] (List.getElem_mem _)
          obtain ⟨i, hi⟩ := Int.eq_ofNat_of_zero_le h1
          have hin : i < n := by omega
          have hiZ : i < Z.length := by rw [hZl'.out]; exact hin
          have hMq := hMi.out j hjM hjs i hiZ hi
          rw [hi] at hcj
          have hzr : Sl RV 1 (mk (un X mo) wr) za Z := (hz3.mono RV.mono (mk_ext hE)).old RV.mono hEj (fun j hj => hO.ob_lt hj)
          obtain ⟨a1, c1, hX1, hc1, hcl1, hq1⟩ := hzr.row i hiZ
          have k00 := hc1.out noY wr (ExtX.refl _) rfl
          obtain ⟨x, hx⟩ : ∃ x, Z[i] = x := ⟨_, rfl⟩
          rw [hx] at k00 hcl1 hq1 hMq
          rw [hMq] at htk
          have hRV : RV (mk (un X mo) wr) (.slice a1 x.length c1) x := ⟨a1, c1, rfl, hcl1, hq1⟩
          obtain ⟨dd, hdd⟩ : ∃ dd, x.length = dd := ⟨_, rfl⟩
          rw [hdd] at k00 hRV
          clear hx hc1 hcl1 hq1 hMq hdd h1 h2 hi
          go_wp2_with (first
            | (with_reducible refine up_ix1 slInt (by omega) (by assumption) ?_)
            | (with_reducible refine up_ix1 slRats (by omega) (by assumption) ?_)
            | (at_builtin; refine st_append1n (l := M.take j) slRats rfl RV.elem hbj hXj j hln.out rfl rfl hO (.slice a1 dd c1) x rfl hRV (by omega) (by omega) ?_; intro oo2 co2 w7 hO7 hE7 hor))
          have hE8 := hEj.own hO (Nat.le_refl _) hE7
          rw [htk.out] at hO7
          go_roundw
          case rel => exact ⟨j + 1, oo2, co2, by go_num, by go_num, by omega, hO7, hE8⟩
          case measure => simp [intOf]; omega
        · have hjr : r = j := by omega
          subst hjr
          rw [List.take_of_length_le (by omega)] at hO
          have hmc := hO.lenCap
          have hnc := hnu.out wr (.slice mo r mc) hXj ⟨mo, mc, by rw [hMl'.out], hmc, hO.sl RV.elem⟩
          have hEw := hE.trans hEj
          clear hnu hlj hO
          obtain ⟨N, hN⟩ : ∃ N, nullM M (r + 1) = N := ⟨_, rfl⟩
          rw [hN] at hnc hno1 hye2
          obtain ⟨nl, hnl⟩ : ∃ nl, N.length = nl := ⟨_, rfl⟩
          have hnl' := hid hnl
          clear hN hnl
          go_wp2_with fail
          refine hnc.mono ?_
          rintro e w5 ⟨hE5, u5, rfl, no, nc, rfl, hncc, hns⟩
          have hhn := hns.hd
          rw [hnl'.out] at hncc hhn |-
          have hE35 := hEw.trans hE5
          have hX5 := hX3.ext hE35
          clear hnc
          by_cases hl1 : nl = 1
          rotate_left 1
          · have d1 : ((nl : Int) != 1) = true := bneT (by omega)
            have hTq := hid (hTn.out cnt (Nat.le_refl _) (hno1.out (by rw [hnl'.out]; exact hl1) cnt))
            go_wp2_with fail
            go_roundw
            case rel => exact ⟨q + 1, cnt, by go_num, by omega, rfl, hkc, hcn, hTq, hE35⟩
            case measure => simp [intOf]; omega
          · subst hl1
            obtain ⟨hLl, hLB, hLn, hrnd⟩ := hye2.out hnl'.out (N[0]'(by rw [hnl'.out]; decide)) (List.getElem?_eq_getElem _)
            have h0N : 0 < N.length := by rw [hnl'.out]; decide
            obtain ⟨a1, c1, hX1, hc1, hcl1, hq1⟩ := hns.row 0 h0N
            have k00 := hc1.out noY w5 (ExtX.refl _) rfl
            have hB2 : 35 ^ 2 * B <= 7962500 := by
              have e : 35 ^ 2 = 1225 := by decide
              rw [e]; omega
            have hLC : BR 7962500 N[0] := fun q hq => Nat.le_trans (hLB q hq) hB2
            have hLRV : RV (mk X w5) (.slice a1 N[0].length c1) N[0] := ⟨a1, c1, rfl, hcl1, hq1.qv fun q hq => Nat.le_trans (hLC q hq) (by decide)⟩
            obtain ⟨L, hL⟩ : ∃ L, N[0] = L := ⟨_, rfl⟩
            rw [hL] at hLl hLn hrnd k00 hLC hLRV
            rw [hLl] at k00 hLRV
            have hz5 : MV (mk X w5) (.slice za n zc) Z := ⟨za, zc, by rw [hZl'.out], by rw [hZl'.out]; exact hzc, hz3.mono RV.mono (mk_ext hE35)⟩
            have hcn5 := rcnt_any X w5 (.slice za n zc) (.slice a1 (r + 1) c1) Z L (r + 1) B 7962500 hX5 hz5 hLRV hZs'.out.2 hLl (by omega) (by rw [hZl'.out]; omega) hZB'.out hLC hB1 (by decide) (by omega)
            have hPl := posM_le (r + 1) L Z
            have hQl := negM_le (r + 1) L Z
            rw [hZl'.out] at hPl hQl
            obtain ⟨P, hP⟩ : ∃ P, posM (r + 1) L Z = P := ⟨_, rfl⟩
            obtain ⟨Q, hQ⟩ : ∃ Q, negM (r + 1) L Z = Q := ⟨_, rfl⟩
            rw [hP] at hPl hcn5 hrnd
            rw [hQ] at hQl hcn5 hrnd
            have hrnd' := hid hrnd
            have hLl' := hid hLl
            have hLC' := hid hLC
            have hS0 : Hid (∀ Y W', ExtX Y w5 W' -> Y (adr no 0).block = false -> W'.cell? (adr no 0) = some (.slice a1 (r + 1) c1)) := hid fun Y W' h1 h2 => by
              have := hc1.out Y W' h1 h2
              rw [hL, hLl'.out] at this; exact this
            clear hP hQ hL hLB hq1 hz5 hnl' hno1 hrnd hLl hLC hcl1 hc1 h0N hye2
            go_wp2_with (with_reducible refine up_ix1 slRats (by omega) (by assumption) ?_)
            refine hcn5.mono ?_
            rintro e w6 ⟨hE6, rfl⟩
            have hE36 := hE35.trans hE6
            have hLR6 := mkx RV.mono hLRV hE6
            clear hcn5 k00 hLRV
            go_wp2_with fail
            go_loopw [19, 97] (fun o cx wx => ∃ (i : Nat) (fo : Option Addr) (fc : Nat) (F : List (List Rat)), cx = .int .i64 i /\ i <= n /\ o = .slice fo F.length fc /\ F.length <= i /\ Hid (F = onM (r + 1) L (Z.take i)) /\ OL RV 1 X w6.heap.size 33 wx fo fc F /\ Ext w6 wx) (fun _ cx _ => n - (intOf cx).toNat)
            case atStart => exact ⟨0, none, 0, [], rfl, Nat.zero_le _, rfl, Nat.zero_le _, hid rfl, OL.nil _ _ _ _ _ _, ExtX.refl _⟩
            case round =>
              obtain ⟨i, fo, fc, F, rfl, hi, rfl, hFl, hFe, hO, hEi⟩ := hrel
              have hE3i := hE36.trans hEi
              have hXi := hX3.ext hE3i
              have hbi := hEi.size
              by_cases hli : i < n
              · have hiZ : i < Z.length := by rw [hZl'.out]; exact hli
                have hzr : Sl RV 1 (mk (un X fo) wr) za Z := (hz3.mono RV.mono (mk_ext hE36)).old RV.mono hEi (fun j hj => hO.ob_lt hj)
                obtain ⟨a2, c2, hX2, hc2, hcl2, hq2⟩ := hzr.row i hiZ
                have k00 := hc2.out noY wr (ExtX.refl _) rfl
                have k01 := hS0.out noY wr (hE6.trans hEi) rfl
                have hvl := hZs'.out.2 Z[i] (List.getElem_mem _)
                have hvB := hZB'.out Z[i] (List.getElem_mem _)
                have hos := hid (onM_succ (r + 1) L hiZ)
                have hdv := hid (dot_vec (u := L) (z := Z[i]) hLl'.out)
                have hdb := dot_bounds2 (l := L) (m := Z[i]) hLC'.out hvB (by decide) hB1 (by
                  rw [hLl'.out]
                  have : (r + 1) * (7962500 + B + 1) <= 3 * (7962500 + B + 1) := Nat.mul_le_mul_right _ (by omega)
                  omega)
                have hvU : RV (mk (un X fo) wr) (.slice a2 Z[i].length c2) Z[i] := ⟨a2, c2, rfl, hcl2, hq2⟩
                have hvX : RV (mk X wr) (.slice a2 Z[i].length c2) Z[i] := RV.mono _ _ _ _ (mk_sub (X := X) fun k _ hk => un_left hk) hvU
                have hdot := rdot23_any X wr (.slice a1 (r + 1) c1) (.slice a2 Z[i].length c2) L Z[i] hXi (mkx RV.mono hLR6 hEi) hvX (by rw [hLl'.out]; omega) (by rw [hLl'.out]; exact hvl) hdb.1 hdb.2
                have hdq : Hid (Go.Lim.hq (dotL L Z[i]) <= 68719476736) := hid (hdb.1 _ (Nat.le_refl _))
                rw [<- hdv.out] at hos
                rw [hvl] at k00 hdot hvU
                obtain ⟨D, hD⟩ : ∃ D, dotL L Z[i] = D := ⟨_, rfl⟩
                obtain ⟨v, hv⟩ : ∃ v, Z[i] = v := ⟨_, rfl⟩
                rw [hD] at hos hdot hdq
                rw [hv] at hos hvU
                clear hc2 hvl hvB hdb hD hdv hcl2 hq2 hv hvX
                have hfl : Hid (F.length = F.length) := hid rfl
                have hcase : D.num.sign = 0 \/ D.num.sign ≠ 0 := by omega
                rcases hcase with hsg | hsg
                · have hD0 : D = 0 := by rcases sign_cases D with h | h | h
                                         · omega
                                         · exact h.1
                                         · omega
                  have hF2 : Hid (F ++ [v] = onM (r + 1) L (Z.take (i + 1))) := hid (by rw [hos.out, if_pos hD0, <- hFe.out])
                  have hsg' := hid hsg
                  clear hsg hD0 hos
                  go_wp2_with (with_reducible refine up_ix1 slRats (by omega) (by assumption) ?_)
                  refine hdot.mono ?_
                  rintro e w7 ⟨hE7, u7, rfl, hu7⟩
                  go_wp2_with fail
                  refine (rqsign X w7 u7 D (hXi.ext hE7) (hu7.qv hdq.out)).mono ?_
                  rintro e w8 ⟨hE8, rfl⟩
                  rw [hsg'.out]
                  have hE78 := hE7.trans hE8
                  have hO8 := hO.ext0 RV.elem hE78
                  have hX8 := hXi.ext hE78
                  have hv8 := mkx RV.mono hvU hE78
                  have hb8 := (hEi.trans hE78).size
                  clear k00 k01 hdot
                  go_wp2_with (at_builtin; refine st_append1n (l := F) slRats rfl RV.elem hb8 hX8 F.length rfl rfl rfl hO8 (.slice a2 (r + 1) c2) v rfl hv8 (by omega) (by omega) ?_; intro oo2 co2 w9 hO9 hE9 hor)
                  have hE10 := (hEi.trans hE78).own hO8 (Nat.le_refl _) hE9
                  have hl9 : (F ++ [v]).length = F.length + 1 := by simp
                  go_roundw
                  case rel => exact ⟨i + 1, oo2, co2, F ++ [v], by go_num, by omega, by rw [hl9], by omega, hF2, hO9, hE10⟩
                  case measure => simp [intOf]; omega
                · have hD0 : ¬ D = 0 := fun h => hsg (by rw [h]; rfl)
                  have hF2 : Hid (F = onM (r + 1) L (Z.take (i + 1))) := hid (by rw [hos.out, if_neg hD0, <- hFe.out, List.append_nil])
                  have hsg' : (D.num.sign == 0) = false := beqF hsg
                  clear hsg hD0 hos
                  go_wp2_with (with_reducible refine up_ix1 slRats (by omega) (by assumption) ?_)
                  refine hdot.mono ?_
                  rintro e w7 ⟨hE7, u7, rfl, hu7⟩
                  go_wp2_with fail
                  refine (rqsign X w7 u7 D (hXi.ext hE7) (hu7.qv hdq.out)).mono ?_
                  rintro e w8 ⟨hE8, rfl⟩
                  have hE78 := hE7.trans hE8
                  have hO8 := hO.ext0 RV.elem hE78
                  have hE10 := hEi.trans hE78
                  clear k00 k01 hdot
                  go_wp2_with fail
                  go_roundw
                  case rel => exact ⟨i + 1, fo, fc, F, by go_num, by omega, rfl, by omega, hF2, hO8, hE10⟩
                  case measure => simp [intOf]; omega
              · have hin : i = n := by omega
                subst hin
                have hF : F = onM (r + 1) L Z := by rw [hFe.out, List.take_of_length_le (by rw [hZl'.out]; exact Nat.le_refl _)]
                have hFs : Shp F.length (r + 1) F := ⟨rfl, fun x hx => hZs'.out.2 x (by rw [hF] at hx; exact onM_sub _ _ _ x hx)⟩
                have hFn : F.length < i := by rw [hF]; exact hLn
                have hFB : BM B F := BM.sub hZB'.out fun x hx => by rw [hF] at hx; exact onM_sub _ _ _ x hx
                have hrec := ih'.out F.length hFn X wr (.slice fo F.length fc) F (r + 1) B hXi ⟨fo, fc, rfl, hO.lenCap, hO.sl RV.elem⟩ hFs (by omega) (by omega) hd3 hFB hB1 hB
                have hrn2 := hid (fun l (h : IsDep (r + 1) (vecs F) l) => hrnd'.out cnt l hkc (by rw [<- hF]; exact h))
                clear hF hFs hFB hFe hO hrnd'
                go_wp2_with fail
                refine hrec.mono ?_
                rintro e w7 ⟨hE7, l, rfl, hll, hdl⟩
                obtain ⟨g1, g2⟩ := hrn2.out l hdl
                have hTq := hid (hTn.out _ (by omega) g2)
                have hE9 := hE3i.trans hE7
                have hwr : IntKind.i64.wrap (min (P : Int) (Q : Int) + (l : Int)) = ((min P Q + l : Nat) : Int) := by rw [IntWalk.i64_in _ (by omega)]; omega
                clear hrec hdl hrn2
                go_wp2_with fail
                go_roundw
                case rel => exact ⟨q + 1, min cnt (min P Q + l), by go_num, by omega, by rw [show ((min cnt (min P Q + l) : Nat) : Int) = min (cnt : Int) ((min P Q + l : Nat) : Int) by omega]; rfl, g1, by omega, hTq, hE9⟩
                case measure => simp [intOf]; omega
    · have hqK : q = K := by omega
      subst hqK
      have hfin := hid (hdone.out cnt hkc (by have := hT.out; rwa [List.take_of_length_le (by rw [hK'.out]; exact Nat.le_refl _)] at this))
      go_wp2_with fail
      go_ret
      exact ⟨hE13.trans hE, cnt, rfl, hcn, hfin.out⟩
end Go.Proofs.YtjbhcniiioepgaaGreat
namespace Go.Proofs.YtjbhcniiioepgaaGreat
open Go.RowKit Go.Rep Go.Lim
set_option maxRecDepth 100000 in
theorem rminus23 (X : Nat -> Bool) (w : World) (u v : Value) (l m : List Rat) (hX : HX X w) (hu : RV (mk X w) u l) (hv : RV (mk X w) v m) (hl : l.length <= 1000000) (hml : m.length = l.length) : Calls Tryz.prog 182 #[u, v] w (ROut X w RC (List.zipWith (· - ·) l m)) := by
  obtain ⟨ao, ca, rfl, hca, hsa⟩ := hu
  have hha := hsa.hd
  obtain ⟨bo, cb, rfl, hcb, hsb⟩ := hv
  have hhb := hsb.hd
  have hml1 : m.length <= l.length := by omega
  have hml2 : l.length <= m.length := by omega
  obtain ⟨L, hL⟩ : ∃ L, List.zipWith (· - ·) l m = L := ⟨_, rfl⟩
  have hLl : L.length = l.length := by rw [<- hL]; simp; omega
  have hLi := hid (show ∀ i (hi : i < l.length) (hj : i < m.length) (hi' : i < L.length), L[i] = l[i] - m[i] from fun i hi hj hi' => by subst hL; simp)
  rw [hL]
  have hLl1 : L.length <= l.length := by omega
  have hLl2 : l.length <= L.length := by omega
  have hLl' := hid hLl
  clear hL hml hLl
  go_enter Tryz.func182, Tryz.ntmps182
  go_wp2_with fail
  go_loopw [5, 9] (fun o cc wr => ∃ (i : Nat) (oo : Option Addr) (co : Nat), cc = .int .i64 i /\ o = .slice oo i co /\ i <= l.length /\ OL QC 3 X w.heap.size 31 wr oo co (L.take i) /\ Ext w wr) (fun _ cc _ => l.length - (intOf cc).toNat)
  case atStart => exact ⟨0, none, 0, rfl, rfl, Nat.zero_le _, OL.nil _ _ _ _ _ _, ExtX.refl _⟩
  case round =>
    obtain ⟨i, oo, co, rfl, rfl, hi, hO, hE⟩ := hrel
    have hXr : HX X wr := hX.ext hE
    have hXu : HX (un X oo) wr := hO.unX hXr
    have hbase := hE.size
    by_cases hlt : i < l.length
    · have hsr : Sl QV 3 (mk (un X oo) wr) ao l := hsa.old QV.mono hE (fun j hj => hO.ob_lt hj)
      have hltL : i < L.length := by omega
      have htk := hid (take_snoc L i hltL)
      have hln := hid (len_take (l := L) (i := i) (by omega))
      have hltm : i < m.length := by omega
      have hsr2 : Sl QV 3 (mk (un X oo) wr) bo m := hsb.old QV.mono hE (fun j hj => hO.ob_lt hj)
      obtain ⟨g2, o2, s2, a2, n2, c2, d2, k2, e2, hg2, hX2, hc2, hq2⟩ := hsr2.rat QV.shaped i hltm
      obtain ⟨g1, o1, s1, a1, n1, c1, d1, k1, e1, hg1, hX1, hc1, hq1⟩ := hsr.rat QV.shaped i hlt
      have hob1 := (un_false hX1).2
      have hobb := (un_false hX2).2
      have i2 : ∀ W, (Instr.indexAt 33 (.slice bo m.length cb) (.int .i64 (i : Int))).run Tryz.prog W = .ok (.pointer (some ⟨g2, o2, none⟩)) W := by rw [<- hg2]; exact run_indexAt_adr slRat bo m.length cb .i64 i hhb (by omega)
      have i1 : ∀ W, (Instr.indexAt 33 (.slice ao l.length ca) (.int .i64 (i : Int))).run Tryz.prog W = .ok (.pointer (some ⟨g1, o1, none⟩)) W := by rw [<- hg1]; exact run_indexAt_adr slRat ao l.length ca .i64 i hha (by omega)
      have hEd : Ext wr wr.drew := (ExtX.refl wr).drew
      have hS : Hid (∀ Y W', ExtX Y wr.drew W' -> Y g1 = false -> Y g2 = false -> W'.cell? ⟨g1, o1, none⟩ = some (.bool s1) /\ W'.cell? ⟨g1, o1 + 1, none⟩ = some (.slice a1 n1 c1) /\ W'.cell? ⟨g1, o1 + 2, none⟩ = some (.slice d1 k1 e1) /\ W'.cell? ⟨g2, o2, none⟩ = some (.bool s2) /\ W'.cell? ⟨g2, o2 + 1, none⟩ = some (.slice a2 n2 c2) /\ W'.cell? ⟨g2, o2 + 2, none⟩ = some (.slice d2 k2 e2)) := hid fun Y W' h hg hb => by
        have p1 := hc1.out Y W' ((ExtX.of hEd).trans h) hg
        have p2 := hc2.out Y W' ((ExtX.of hEd).trans h) hb
        exact ⟨p1.1, p1.2.1, p1.2.2, p2.1, p2.2.1, p2.2.2⟩
      obtain ⟨k00, k01, k02, k10, k11, k12⟩ := hS.out noY wr.drew (ExtX.refl _) rfl rfl
      have hxd : QV (mk (un X oo) wr.drew) (.agg #[.bool s1, .slice a1 n1 c1, .slice d1 k1 e1]) l[i] := hq1
      have hvd : QV (mk (un X oo) wr.drew) (.agg #[.bool s2, .slice a2 n2 c2, .slice d2 k2 e2]) m[i] := hq2
      have hXd : HX (un X oo) wr.drew := hXu
      have hyi := hLi.out i hlt hltm hltL
      rw [hyi] at htk
      clear hc1 hg1 hq1 hc2 hg2 hq2
      go_wp2_with fail
      go_region_held3 (fun w' => w'.cell? ⟨g1, o1, none⟩ = some (.bool s1) /\ w'.cell? ⟨g1, o1 + 1, none⟩ = some (.slice a1 n1 c1) /\ w'.cell? ⟨g1, o1 + 2, none⟩ = some (.slice d1 k1 e1) /\ w'.cell? ⟨g2, o2, none⟩ = some (.bool s2) /\ w'.cell? ⟨g2, o2 + 1, none⟩ = some (.slice a2 n2 c2) /\ w'.cell? ⟨g2, o2 + 2, none⟩ = some (.slice d2 k2 e2))
        (first | exact hS.out noY _ t1 rfl rfl | exact hS.out noY _ (ExtX.alloc t1 _) rfl rfl | exact hS.out (ob oo) _ ((ExtX.of t1).trans hE7) hob1 hobb | go_keep)
        (first | (go_at_call 76; (with_reducible refine (rqsub (un X oo) wr.drew _ _ _ _ hXd hxd hvd).mono ?_); rintro ee w6 ⟨t1, u6, rfl, hu6⟩; obtain ⟨s6, a6, n6, c6, d6, k6, e6, rfl⟩ := hu6.shape; have hO6 := hO.ext0 QC.elem (hEd.trans t1); have hb6 := (hEd.trans t1).size; have hX6 := hXr.ext (hEd.trans t1)) | (refine step_append1 (l := L.take i) rfl (by rfl) slRat rfl QC.elem (by omega) hX6 i hln.out rfl rfl hO6 (.agg #[.bool s6, .slice a6 n6 c6, .slice d6 k6 e6]) (l[i] - m[i]) rfl hu6 (by omega) (by omega) ?_; intro oo2 co2 w7 hO7 hE7 hor))
      have hE8 := (hE.trans (hEd.trans t1)).own hO6 (Nat.le_refl _) hE7
      rw [htk.out] at hO7
      clear k00 k01 k02 k10 k11 k12
      go_wp2_with fail
      go_roundw
      case rel => exact ⟨i + 1, oo2, co2, by go_num, by go_num, by omega, hO7, hE8⟩
      case measure => simp [intOf]; omega
    · have hil : i = l.length := by omega
      subst hil
      rw [List.take_of_length_le (by omega)] at hO
      have hc := hO.lenCap
      have hs := hO.sl QC.elem
      go_wp2_with fail
      go_ret
      exact ⟨hE, _, rfl, oo, co, by rw [hLl'.out]; rfl, hc, hs⟩
end Go.Proofs.YtjbhcniiioepgaaGreat
namespace Go.Proofs.YtjbhcniiioepgaaGreat
open Go.RowKit Go.Rep Go.Lim Go.Lin
set_option maxRecDepth 100000 in
theorem rfrom25 (X : Nat -> Bool) (w : World) (u v : Value) (p : List (List Rat)) (x : List Rat) (c : Nat) (hX : HX X w) (hu : MV (mk X w) u p) (hv : RV (mk X w) v x) (hsh : ∀ r ∈ p, r.length = c) (hx : x.length = c) (hc : c <= 1000) (hp : p.length <= 1000) : Calls Tryz.prog 131 #[u, v] w (ROut X w MC (fromM c p x)) := by
  obtain ⟨M, hM⟩ : ∃ M, fromM c p x = M := ⟨_, rfl⟩
  obtain ⟨n, hn⟩ : ∃ n, p.length = n := ⟨_, rfl⟩
  have hMl : Hid (M.length = n) := hid (by rw [<- hM, <- hn]; simp [fromM])
  have hMr : Hid (∀ j (hj : j < p.length) (h : j < M.length), M[j] = List.zipWith (· - ·) p[j] x) := hid fun j hj h => by subst hM; exact from_get hsh hx j hj h
  have hMl2 : M.length <= n := by rw [hMl.out]; exact Nat.le_refl _
  have hMl3 : n <= M.length := by rw [hMl.out]; exact Nat.le_refl _
  obtain ⟨ua, uca, rfl, huca, hua⟩ := hu
  have hhu := hua.hd
  obtain ⟨va, vca, rfl, hvca, hva⟩ := hv
  have hn' := hid hn
  have hsh' := hid hsh
  have hx' := hid hx
  rw [hM]
  rw [hn] at hp huca hhu |-
  clear hM hn hsh hx
  go_enter Tryz.func131, Tryz.ntmps131
  go_wp2_with fail
  go_loopw [5, 10] (fun o cc wr => ∃ (i : Nat) (oo : Option Addr) (co : Nat), cc = .int .i64 i /\ o = .slice oo i co /\ i <= n /\ OL RC 1 X w.heap.size 33 wr oo co (M.take i) /\ Ext w wr) (fun _ cc _ => n - (intOf cc).toNat)
  case atStart => exact ⟨0, none, 0, rfl, rfl, Nat.zero_le _, OL.nil _ _ _ _ _ _, ExtX.refl _⟩
  case round =>
    obtain ⟨i, oo, co, rfl, rfl, hi, hO, hE⟩ := hrel
    have hXr : HX X wr := hX.ext hE
    have hXu : HX (un X oo) wr := hO.unX hXr
    have hbase := hE.size
    by_cases hlt : i < n
    · have him : i < p.length := by rw [hn'.out]; exact hlt
      have hltM : i < M.length := by omega
      have htk := hid (take_snoc M i hltM)
      have hln := hid (len_take (l := M) (i := i) (by omega))
      have hRd := hMr.out i him hltM
      have hsr : Sl RV 1 (mk (un X oo) wr) ua p := hua.old RV.mono hE (fun j hj => hO.ob_lt hj)
      have hvr : RV (mk (un X oo) wr) (.slice va x.length vca) x := old_un RV.mono ⟨va, vca, rfl, hvca, hva⟩ hE (fun j hj => hO.ob_lt hj)
      obtain ⟨a1, c1, hX1, hc1, hcl1, hq1⟩ := hsr.row i him
      have k00 := hc1.out noY wr (ExtX.refl _) rfl
      have hrl := hid (hsh'.out p[i] (List.getElem_mem _))
      have hmi := rminus23 (un X oo) wr _ _ p[i] x hXu ⟨a1, c1, rfl, hcl1, hq1⟩ hvr (by rw [hrl.out]; omega) (by rw [hrl.out, hx'.out])
      rw [<- hRd] at hmi
      obtain ⟨R, hR⟩ : ∃ R, M[i] = R := ⟨_, rfl⟩
      rw [hR] at hmi htk
      clear hR hRd hc1
      go_wp2_with (with_reducible refine up_ix1 slRats (by omega) (by assumption) ?_)
      refine hmi.mono ?_
      rintro e w6 ⟨hE6, u6, rfl, ro, cr, rfl, hcr, hsR⟩
      have hRC : RC (mk (un X oo) w6) (.slice ro R.length cr) R := ⟨ro, cr, rfl, hcr, hsR⟩
      obtain ⟨k, hk⟩ : ∃ k, R.length = k := ⟨_, rfl⟩
      rw [hk] at hRC |-
      have hO6 := hO.ext0 RC.elem hE6
      have hb6 := hE6.size
      clear k00
      go_wp2_with (at_builtin; refine st_append1n (l := M.take i) slRats rfl RC.elem (by omega) (hXr.ext hE6) i hln.out rfl rfl hO6 (.slice ro k cr) R rfl hRC (by omega) (by omega) ?_; intro oo2 co2 w7 hO7 hE7 hor)
      have hE8 := (hE.trans hE6).own hO6 (Nat.le_refl _) hE7
      rw [htk.out] at hO7
      go_roundw
      case rel => exact ⟨i + 1, oo2, co2, by go_num, by go_num, by omega, hO7, hE8⟩
      case measure => simp [intOf]; omega
    · have hil : i = n := by omega
      subst hil
      rw [List.take_of_length_le (by omega)] at hO
      have hc := hO.lenCap
      have hs := hO.sl RC.elem
      go_wp2_with fail
      go_ret
      exact ⟨hE, _, rfl, oo, co, by rw [hMl.out]; rfl, hc, hs⟩
end Go.Proofs.YtjbhcniiioepgaaGreat
namespace Go.Proofs.YtjbhcniiioepgaaGreat
open Go.RowKit Go.Rep Go.Lim Go.Lin
def ShOut (w : World) (m : List (List Rat)) (e : Ending) (w' : World) : Prop := Ext w w' /\ ∃ a b : Nat, e = .returned (.tuple #[.int .i64 (a : Int), .int .i64 (b : Int), .bool (ptsB m)]) /\ (ptsB m = true -> a = m.length /\ b = colsL m)
theorem ptsB_no1 {α : Type} {m : List (List α)} (h : m.length < 1 \/ 64 < m.length) : ptsB m = false := by
  cases hp : ptsB m
  · rfl
  · have := ptsB_true.1 hp; omega
theorem ptsB_no2 {α : Type} {m : List (List α)} (i : Nat) (hi : i < m.length) (h : m[i].length ≠ colsL m) : ptsB m = false := by
  cases hp : ptsB m
  · rfl
  · exact absurd ((ptsB_true.1 hp).2.2.2.2 i hi) h
theorem ptsB_no3 {α : Type} {m : List (List α)} (h : colsL m < 1 \/ 3 < colsL m) : ptsB m = false := by
  cases hp : ptsB m
  · rfl
  · have := ptsB_true.1 hp; omega
set_option maxRecDepth 100000 in
theorem rshape_any {R : Mem -> Value -> Rat -> Prop} (_hR : Mono R) (X : Nat -> Bool) (w : World) (u : Value) (m : List (List Rat)) (hu : SlV (SlV R 3) 1 (mk X w) u m) (hl : m.length <= 1099511627776) : Calls Tryz.prog 66 #[u] w (ShOut w m) := by
  obtain ⟨ao, ca, rfl, hca, hsa⟩ := hu
  have hha := hsa.hd
  by_cases h1 : m.length < 1
  · have d1 : (m.length : Int) < 1 := by omega
    have hv := hid (ptsB_no1 (m := m) (.inl h1))
    go_enter Tryz.func66, Tryz.ntmps66
    go_wp2_with fail
    go_ret3
    exact ⟨ExtX.refl _, 0, 0, by rw [hv.out]; rfl, fun h => by rw [hv.out] at h; simp at h⟩
  by_cases h2 : 64 < m.length
  · have d1 : ¬ (m.length : Int) < 1 := by omega
    have d2 : (64 : Int) < (m.length : Int) := by omega
    have hv := hid (ptsB_no1 (m := m) (.inr h2))
    go_enter Tryz.func66, Tryz.ntmps66
    go_wp2_with fail
    go_ret3
    exact ⟨ExtX.refl _, 0, 0, by rw [hv.out]; rfl, fun h => by rw [hv.out] at h; simp at h⟩
  have d1 : ¬ (m.length : Int) < 1 := by omega
  have d2 : ¬ (64 : Int) < (m.length : Int) := by omega
  have h0 : 0 < m.length := by omega
  obtain ⟨n, hn⟩ : ∃ n, m.length = n := ⟨_, rfl⟩
  have hn' := hid hn
  obtain ⟨a2, c2, hX2, hc2, hcl2, hq2⟩ := hsa.row 0 h0
  have k10 := hc2.out noY w (ExtX.refl _) rfl
  have hcol := colsL_pos h0
  rw [<- hcol] at k10
  have hno2 := hid (fun i hi h => ptsB_no2 (m := m) i hi h)
  have hno3 := hid (fun h => ptsB_no3 (m := m) h)
  have hyes : Hid ((∀ q, q < n -> ∀ hq : q < m.length, m[q].length = colsL m) -> 1 <= colsL m -> colsL m <= 3 -> ptsB m = true) := hid fun h3 h4 h5 => ptsB_true.2 ⟨by omega, by omega, h4, h5, fun i hi => h3 i (by omega) hi⟩
  obtain ⟨y, hy⟩ : ∃ y, colsL m = y := ⟨_, rfl⟩
  have hy' := hid hy
  rw [hy] at k10 hno3 hyes
  have hn64 : n <= 64 := by omega
  have hn1 : 1 <= n := by omega
  rw [hn] at d1 d2 hha |-
  clear hcol hc2 hq2 hcl2 h1 h2 h0 hn hy hca
  go_enter Tryz.func66, Tryz.ntmps66
  go_wp2_with (with_reducible refine up_ix1 slRats (by omega) (by assumption) ?_)
  go_loop [22] (fun cc => ∃ i : Nat, cc = .int .i64 i /\ i <= n /\ Hid (∀ q, q < i -> ∀ hq : q < m.length, m[q].length = colsL m)) (fun cc => n - (intOf cc).toNat)
  case atStart => exact ⟨0, rfl, Nat.zero_le _, hid fun q hq => by omega⟩
  case round =>
    obtain ⟨i, rfl, hi, hok⟩ := hrel
    by_cases hlt : i < n
    · have hil : i < m.length := by rw [hn'.out]; exact hlt
      obtain ⟨a1, c1, hX1, hc1, hcl1, hq1⟩ := hsa.row i hil
      have k00 := hc1.out noY w (ExtX.refl _) rfl
      have hn2 := hid (hno2.out i hil)
      obtain ⟨x, hx⟩ : ∃ x, m[i].length = x := ⟨_, rfl⟩
      have hst : Hid (x = y -> ∀ hq : i < m.length, m[i].length = colsL m) := hid fun h hq => by rw [hx, hy'.out]; exact h
      rw [hx, hy'.out] at hn2
      rw [hx] at k00
      clear hx hc1 hq1 hcl1
      by_cases hxy : x = y
      · have e1 : ((x : Int) != (y : Int)) = false := bneF (by omega)
        have hst2 := hid (hst.out hxy)
        clear hxy
        go_wp2_with (with_reducible refine up_ix1 slRats (by omega) (by assumption) ?_)
        go_round
        case rel => exact ⟨i + 1, by go_num, by omega, hid (upto_succ hok.out hst2.out)⟩
        case measure => simp [intOf]; omega
      · have e1 : ((x : Int) != (y : Int)) = true := bneT (by omega)
        have hv := hid (hn2.out hxy)
        clear hxy
        go_wp2_with (with_reducible refine up_ix1 slRats (by omega) (by assumption) ?_)
        go_ret3
        exact ⟨ExtX.refl _, 0, 0, by rw [hv.out]; rfl, fun h => by rw [hv.out] at h; simp at h⟩
    · have hin : i = n := by omega
      subst hin
      have hy2 := hid (hyes.out fun q h1 h2 => (hok.out q h1 h2).trans hy'.out)
      clear hlt k10
      by_cases h1 : 1 <= y
      · have e1 : (1 : Int) <= (y : Int) := by omega
        by_cases h3 : y <= 3
        · have e2 : (y : Int) <= 3 := by omega
          have hv := hid (hy2.out h1 h3)
          go_wp2_with fail
          go_ret3
          exact ⟨ExtX.refl _, i, y, by rw [hv.out]; rfl, fun _ => ⟨hn'.out.symm, hy'.out.symm⟩⟩
        · have e2 : ¬ (y : Int) <= 3 := by omega
          have hv := hid (hno3.out (.inr (by omega)))
          go_wp2_with fail
          go_ret3
          exact ⟨ExtX.refl _, i, y, by rw [hv.out]; rfl, fun _ => ⟨hn'.out.symm, hy'.out.symm⟩⟩
      · have e1 : ¬ (1 : Int) <= (y : Int) := by omega
        have hv := hid (hno3.out (.inl (by omega)))
        go_wp2_with fail
        go_ret3
        exact ⟨ExtX.refl _, i, y, by rw [hv.out]; rfl, fun _ => ⟨hn'.out.symm, hy'.out.symm⟩⟩
end Go.Proofs.YtjbhcniiioepgaaGreat
namespace Go.Proofs.YtjbhcniiioepgaaGreat
open Go.RowKit Go.Rep Go.Lim Go.Lin
set_option maxRecDepth 100000 in
theorem rdepth_any (X : Nat -> Bool) (w : World) (u v : Value) (p : Mat) (y : List Rat) (B : Nat) (hX : HX X w) (hu : MV (mk X w) u p) (hv : RV (mk X w) v y) (hp : p.length <= 1000) (hpB : BM B p) (hyB : BR B y) (hB : 1 <= B) (hBB : B <= 3000) :
    Calls Tryz.prog 73 #[u, v] w (NEOut w (depV p y) (okE (depOk p y))) := by
  have hfi := rshape_any QV.mono X w u p hu (by omega)
  have hv0 := hv
  obtain ⟨va, vca, rfl, hvca, hva⟩ := hv
  unfold ShOut at hfi
  cases hok : depOk p y
  · have hv1 := hid (depV_no hok)
    cases hpts : ptsB p
    · rw [hpts] at hfi
      clear hok hpts
      go_enter Tryz.func73, Tryz.ntmps73
      go_wp2_with fail
      refine hfi.mono ?_
      rintro e w1 ⟨hE1, a, b, rfl, hab⟩
      clear hfi
      go_wp2_with fail
      go_ret2
      exact ⟨hE1, by rw [hv1.out]; rfl⟩
    · have hyc : y.length ≠ colsL p := fun h => by
        unfold depOk at hok; rw [hpts, decide_eq_true h] at hok; simp at hok
      rw [hpts] at hfi
      obtain ⟨c, hc⟩ : ∃ c, colsL p = c := ⟨_, rfl⟩
      obtain ⟨yl, hyl⟩ : ∃ yl, y.length = yl := ⟨_, rfl⟩
      rw [hc] at hfi
      rw [hc, hyl] at hyc
      rw [hyl] at hvca |-
      clear hc hyl hok hpts
      go_enter Tryz.func73, Tryz.ntmps73
      go_wp2_with fail
      refine hfi.mono ?_
      rintro e w1 ⟨hE1, a, b, rfl, hab⟩
      obtain ⟨rfl, rfl⟩ := hab trivial
      have d1 : ((yl : Int) != (b : Int)) = true := bneT (by omega)
      clear hfi hyc
      go_wp2_with fail
      go_ret2
      exact ⟨hE1, by rw [hv1.out]; rfl⟩
  obtain ⟨f1, f2, f3, f4, f5, f6, f7⟩ := from_facts hok hpB hyB hB
  obtain ⟨hpts, hyc⟩ := depOk_parts hok
  rw [hpts] at hfi
  have hval := hid (fun k h => depV_yes (k := k) hok h)
  have hcen := hid (fun w' (h : Ext w w') => rfrom25 X w' u (.slice va y.length vca) p y (colsL p) (hX.ext h) (mkx MV.mono hu h) (mkx RV.mono hv0 h) f1 hyc (by omega) hp)
  obtain ⟨c, hc⟩ : ∃ c, colsL p = c := ⟨_, rfl⟩
  rw [hc] at f1 f4 f5 f6 f7 hval hcen hyc hfi
  obtain ⟨M, hM⟩ : ∃ M, fromM c p y = M := ⟨_, rfl⟩
  rw [hM] at f6 f7 hval hcen
  rw [hyc] at hcen |-
  have hbst := hid (fun w' um (hX' : HX X w') (hm : MV (mk X w') um M) => rleast_any p.length X w' um M c (2 * B + 1) hX' hm f6 f2 f4 f5 f7 (by omega) (by omega))
  have f7' := hid f7
  have hcc : ((c : Int) != (c : Int)) = false := bneF rfl
  clear hok f1 f6 f7 hM hc hv0 hva hpB hyB hu hyc hpts
  go_enter Tryz.func73, Tryz.ntmps73
  go_wp2_with fail
  refine hfi.mono ?_
  rintro e w1 ⟨hE1, a, b, rfl, hab⟩
  obtain ⟨rfl, rfl⟩ := hab trivial
  have hcn := hcen.out w1 hE1
  clear hfi
  go_wp2_with fail
  refine hcn.mono ?_
  rintro e w2 ⟨hE2, um, rfl, hm⟩
  have hE12 := hE1.trans hE2
  have hb := hbst.out w2 um (hX.ext hE12) (hm.mv fun r hr q hq => Nat.le_trans (f7'.out r hr q hq) (by omega))
  clear hcn
  go_wp2_with fail
  refine hb.mono ?_
  rintro e w3 ⟨hE3, k, rfl, _, hk⟩
  have hkv := hid (hval.out k hk)
  clear hb hk
  go_wp2_with fail
  go_ret2
  exact ⟨hE12.trans hE3, by rw [hkv.out]; rfl⟩
end Go.Proofs.YtjbhcniiioepgaaGreat
namespace Go.Rep
open Go.RowKit Go.Lim
abbrev RawQ := Bool × List Nat × List Nat
def QR (h : Mem) (u : Value) (x : RawQ) : Prop := ∃ ao c bo e, u = .agg #[.bool x.1, .slice ao x.2.1.length c, .slice bo x.2.2.length e] /\ x.2.1.length <= c /\ x.2.2.length <= e /\ Dig x.2.1 /\ Dig x.2.2 /\ x.2.1.length <= 9223372036854775807 /\ x.2.2.length <= 9223372036854775807 /\ Sl (NatIn .u32) 1 h ao x.2.1 /\ Sl (NatIn .u32) 1 h bo x.2.2
theorem QR.mono : Mono QR := by rintro h h' u x hl ⟨ao, c, bo, e, rfl, h1, h2, h3, h4, h5, h6, h7, h8⟩; exact ⟨ao, c, bo, e, rfl, h1, h2, h3, h4, h5, h6, h7.mono (NatIn.mono _) hl, h8.mono (NatIn.mono _) hl⟩
theorem QR.elem : Elem QR 3 := ⟨QR.mono, by rintro h u x ⟨ao, c, bo, e, rfl, _⟩; rfl, by
  rintro h u x ⟨ao, c, bo, e, rfl, _⟩ v hv
  simp [cellsL, Value.cells] at hv
  rcases hv with rfl | rfl | rfl <;> rfl, by decide⟩
theorem QR.shape {h : Mem} {u : Value} {x : RawQ} (hu : QR h u x) : ∃ ao c bo e, u = .agg #[.bool x.1, .slice ao x.2.1.length c, .slice bo x.2.2.length e] := by
  obtain ⟨ao, c, bo, e, rfl, _⟩ := hu; exact ⟨_, _, _, _, rfl⟩
theorem QR.agg : ∀ h u y, QR h u y -> ∃ cs, u = .agg cs := by rintro h u x ⟨ao, c, bo, e, rfl, _⟩; exact ⟨_, rfl⟩
noncomputable def valQ (x : RawQ) : Rat := qval x.1 x.2.1 x.2.2
abbrev Few (k : Nat) (x : RawQ) : Prop := x.2.1.length <= k /\ x.2.2.length <= k
theorem QR.qv {h : Mem} {u : Value} {x : RawQ} (hu : QR h u x) (hf : Few 68719476736 x) : QV h u (valQ x) := by
  obtain ⟨ao, c, bo, e, rfl, h1, h2, h3, h4, _, _, h7, h8⟩ := hu
  exact ⟨_, ao, c, _, bo, e, _, rfl, h1, h2, h3, h4, hf.1, hf.2, h7, h8, rfl⟩
theorem QR.hq {h : Mem} {u : Value} {x : RawQ} {k : Nat} (hu : QR h u x) (hf : Few k x) (hk : 1 <= k) : hq (valQ x) <= k := by
  obtain ⟨ao, c, bo, e, rfl, h1, h2, h3, h4, _, _, h7, h8⟩ := hu
  exact qval_hq _ _ _ k h3 h4 hf.1 hf.2 hk
theorem Sl.qvR {h : Mem} {ao : Option Addr} {l : List RawQ} (s : Sl QR 3 h ao l) (hf : ∀ x ∈ l, Few 68719476736 x) : Sl QV 3 h ao (l.map valQ) :=
  ⟨fun hp => s.1 (by simpa using hp), fun i hi => by
    have hi' : i < l.length := by simpa using hi
    obtain ⟨u, h1, h2, h3⟩ := s.2 i hi'
    exact ⟨u, h1, h2, by rw [List.getElem_map]; exact h3.qv (hf _ (List.getElem_mem _))⟩⟩
theorem Sl.brR {h : Mem} {ao : Option Addr} {l : List RawQ} {k : Nat} (s : Sl QR 3 h ao l) (hf : ∀ x ∈ l, Few k x) (hk : 1 <= k) : BR k (l.map valQ) := fun q hq => by
  obtain ⟨x, hx, rfl⟩ := List.mem_map.1 hq
  obtain ⟨i, hi, rfl⟩ := List.getElem_of_mem hx
  obtain ⟨u, h1, h2, h3⟩ := s.2 i hi
  exact h3.hq (hf _ (List.getElem_mem _)) hk
abbrev RR : Mem -> Value -> List RawQ -> Prop := SlV QR 3
abbrev MR : Mem -> Value -> List (List RawQ) -> Prop := SlV RR 1
theorem RR.mono : Mono RR := SlV.mono QR.mono 3
theorem RR.elem : Elem RR 1 := SlV.elem QR.elem
theorem MR.mono : Mono MR := SlV.mono RR.mono 1
theorem RR.rv {h : Mem} {u : Value} {l : List RawQ} (hu : RR h u l) (hf : ∀ x ∈ l, Few 68719476736 x) : RV h u (l.map valQ) := by
  obtain ⟨ao, c, rfl, h1, h2⟩ := hu
  exact ⟨ao, c, by rw [List.length_map], by rw [List.length_map]; exact h1, h2.qvR hf⟩
theorem RR.br {h : Mem} {u : Value} {l : List RawQ} {k : Nat} (hu : RR h u l) (hf : ∀ x ∈ l, Few k x) (hk : 1 <= k) : BR k (l.map valQ) := by
  obtain ⟨ao, c, rfl, h1, h2⟩ := hu
  exact h2.brR hf hk
noncomputable def valM (m : List (List RawQ)) : List (List Rat) := m.map fun r => r.map valQ
theorem MR.mv {h : Mem} {u : Value} {m : List (List RawQ)} (hu : MR h u m) (hf : ∀ r ∈ m, ∀ x ∈ r, Few 68719476736 x) : MV h u (valM m) := by
  obtain ⟨ao, c, rfl, h1, h2⟩ := hu
  refine ⟨ao, c, by rw [valM, List.length_map], by rw [valM, List.length_map]; exact h1, fun hp => h2.1 (by simpa [valM] using hp), fun i hi => ?_⟩
  have hi' : i < m.length := by simpa [valM] using hi
  obtain ⟨u, k1, k2, k3⟩ := h2.2 i hi'
  exact ⟨u, k1, k2, by simp only [valM, List.getElem_map]; exact RR.rv k3 (hf _ (List.getElem_mem _))⟩
theorem MR.bm {h : Mem} {u : Value} {m : List (List RawQ)} {k : Nat} (hu : MR h u m) (hf : ∀ r ∈ m, ∀ x ∈ r, Few k x) (hk : 1 <= k) : BM k (valM m) := fun r hr => by
  obtain ⟨ao, c, rfl, h1, h2⟩ := hu
  obtain ⟨y, hy, rfl⟩ := List.mem_map.1 hr
  obtain ⟨i, hi, rfl⟩ := List.getElem_of_mem hy
  obtain ⟨u, k1, k2, k3⟩ := h2.2 i hi
  exact RR.br k3 (hf _ (List.getElem_mem _)) hk
end Go.Rep
namespace Go.Proofs.YtjbhcniiioepgaaGreat
open Go.ChangeShapes Go.WideShapes Go.ChangeAt Go.RowKit Go.Rep Go.Deep Go.Lim
section
variable {H : Type} {enc : TypeId × Value -> H} {w : World} {base : Nat} {spare : Nat -> Bool} {held : Bool}
theorem slice_of {α : Type} {R : Mem -> Value -> α -> Prop} {t e : TypeId} {sz : Nat} (ht : Tryz.prog.underlying t = some (.slice e)) (hC : Tryz.prog.cellsOf e = sz) (hz : 0 < sz) (hsize : ∀ h u x, R h u x -> u.cells.size = sz)
    (hel : ∀ (n : Nat) (cs : List Value) (y : DataW H × List MemPlace), cs.length = sz -> DataW.trod enc Tryz.prog w base spare held n e cs = some y -> ∃ u x, cellsL u = cs /\ R w.cell? u x)
    {fuel : Nat} {v : Value} {x : DataW H × List MemPlace} (h : DataW.trod enc Tryz.prog w base spare held fuel t [v] = some x) :
    ∃ (a : Option Addr) (L : List α) (cap : Nat), v = .slice a L.length cap /\ L.length <= cap /\ cap <= 9223372036854775807 /\ Sl R sz w.cell? a L := by
  rcases open_slice ht h with ⟨hcs, _⟩ | ⟨x, len, c, m, n, D, Pl, hcs, _, hl, hm, hmm, _, hi⟩
  · exact ⟨none, [], 0, by simpa using hcs, by simp, by simp, Sl.nil _ _ _ _⟩
  · have hml : len <= m := by rw [hmm]; split <;> omega
    have hmax : c <= 9223372036854775807 := by simpa [maxLen] using hm
    have key : ∀ k, k <= len -> ∃ L : List α, L.length = k /\ ∀ i (hi : i < L.length), ∃ u, u.cells.size = sz /\ (∀ j (hj : j < u.cells.size), w.cell? (x.add (i * sz + j)) = some u.cells[j]) /\ R w.cell? u L[i] := by
      intro k
      induction k with
      | zero => intro _; exact ⟨[], rfl, by simp⟩
      | succ k ih =>
        intro hk
        obtain ⟨L, h1, h3⟩ := ih (by omega)
        obtain ⟨cs', hc, ht'⟩ := hi k (by omega)
        rw [hC] at hc
        obtain ⟨_, hcl, hat⟩ := World.cells?_some hc
        obtain ⟨u, y, hu, hR⟩ := hel n cs' _ hcl ht'
        refine ⟨L ++ [y], by simp [h1], fun i hi => ?_⟩
        by_cases hik : i < L.length
        · obtain ⟨u, q1, q2, q3⟩ := h3 i hik
          exact ⟨u, q1, q2, by simpa [List.getElem_append_left hik] using q3⟩
        · have hik2 : i = k := by simp at hi; omega
          subst hik2
          refine ⟨u, hsize _ _ _ hR, fun j hj => ?_, ?_⟩
          · have hj2 : j < sz := by rw [hsize _ _ _ hR] at hj; exact hj
            have h5 := hat j (by omega)
            rw [Go.Deep.add_add] at h5
            rw [h5]
            have h6 : cs'[j]? = (cellsL u)[j]? := by rw [hu]
            rw [h6]
            simp [cellsL, hj]
          · simp only [h1.symm, List.getElem_concat_length]
            exact hR
    obtain ⟨L, h1, h3⟩ := key len (Nat.le_refl _)
    refine ⟨some x, L, c, by rw [h1]; simpa using hcs, by omega, by omega, ⟨fun h0 => ?_, fun i hi => ?_⟩⟩
    · obtain ⟨u, q1, q2, _⟩ := h3 0 h0
      obtain ⟨_, b, off, hx⟩ := adr_some (by simpa using q2 0 (by omega))
      exact ⟨b, off, by rw [hx]⟩
    · obtain ⟨u, q1, q2, q3⟩ := h3 i hi
      obtain ⟨v, p1, p2, _⟩ := h3 0 (by omega)
      have ha := (adr_some (by simpa using p2 0 (by omega))).1
      exact ⟨u, q1, fun j hj => by rw [<- ha]; exact q2 j hj, q3⟩
theorem u32s_of {fuel : Nat} {v : Value} {x : DataW H × List MemPlace} (h : DataW.trod enc Tryz.prog w base spare held fuel 27 [v] = some x) :
    ∃ (a : Option Addr) (l : List Nat) (cap : Nat), v = .slice a l.length cap /\ l.length <= cap /\ l.length <= 9223372036854775807 /\ Dig l /\ Sl (NatIn .u32) 1 w.cell? a l := by
  rcases open_ints Tryz.underlying27 Tryz.underlying123 (by kernel_rfl) h with ⟨hcs, _⟩ | ⟨x, len, c, zs, hcs, _, hl, hm, hz, _, hcell, hwf⟩
  · exact ⟨none, [], 0, by simpa using hcs, by simp, by simp, by simp [Dig], Sl.nil _ _ _ _⟩
  · have hzl : len <= zs.length := by
      rw [hz]; split <;> omega
    have hr : ∀ n ∈ zs, 0 <= n /\ n < 4294967296 := fun n hn => by
      have := hwf n hn
      unfold Lit.wf at this
      have : 0 <= n /\ n <= 4294967295 := by simpa [IntKind.min, IntKind.max, IntKind.signed, IntKind.bits] using this
      omega
    have hlen : ((zs.take len).map Int.toNat).length = len := by simp; omega
    have hmax : c <= 9223372036854775807 := by simpa [maxLen] using hm
    refine ⟨some x, (zs.take len).map Int.toNat, c, by rw [hlen]; simpa using hcs, by omega, by omega, fun d hd => ?_, fun h0 => ?_, fun i hi => ?_⟩
    · obtain ⟨z, hz1, rfl⟩ := List.mem_map.1 hd
      have := hr z (List.mem_of_mem_take hz1)
      rw [B_eq]
      omega
    · obtain ⟨_, b, off, hx⟩ := adr_some (hcell 0 (by omega))
      exact ⟨b, off, by rw [hx]⟩
    · have hi' : i < zs.length := by omega
      have hil : i < len := by omega
      refine ⟨.int .u32 (((zs.take len).map Int.toNat)[i] : Nat), rfl, fun j hj => ?_, rfl⟩
      have hj0 : j = 0 := by simp [Value.cells] at hj; exact hj
      subst hj0
      have h1 := hcell i hi'
      have h2 := (adr_some (hcell 0 (by omega))).1 i
      rw [h2] at h1
      have h3 := hr zs[i] (List.getElem_mem _)
      simp only [Nat.mul_one, Nat.add_zero, List.getElem_map, List.getElem_take]
      rw [h1]
      simp [List.getD_eq_getElem?_getD, hi', Value.cells]
      omega
theorem rat_of {fuel : Nat} {cs : List Value} {x : DataW H × List MemPlace} (hl : cs.length = 3) (h : DataW.trod enc Tryz.prog w base spare held fuel 31 cs = some x) : ∃ u y, cellsL u = cs /\ QR w.cell? u y := by
  obtain ⟨ys, n', hn', hy, hlen, hyl, hf⟩ := DataW.trod_struct Tryz.underlying31 h
  have c1 : Tryz.prog.cellsOf 29 = 2 := by kernel_rfl
  have c2 : Tryz.prog.cellsOf 27 = 1 := by kernel_rfl
  have c3 : Tryz.prog.cellsOf 4 = 1 := by kernel_rfl
  have f0 : DataW.trod enc Tryz.prog w base spare held n' 29 ((cs.drop 0).take (Tryz.prog.cellsOf 29)) = ys[0]? := hf 0 _ rfl
  have f1 : DataW.trod enc Tryz.prog w base spare held n' 27 ((cs.drop 2).take (Tryz.prog.cellsOf 27)) = ys[1]? := hf 1 _ rfl
  have hyl2 : ys.length = 2 := hyl
  obtain ⟨a, b, c, rfl⟩ : ∃ a b c, cs = [a, b, c] := by
    rcases cs with _ | ⟨a, _ | ⟨b, _ | ⟨c, _ | ⟨d, r⟩⟩⟩⟩
    · simp at hl
    · simp at hl
    · simp at hl
    · exact ⟨a, b, c, rfl⟩
    · simp at hl
  rw [c1] at f0
  rw [c2] at f1
  rw [List.getElem?_eq_getElem (by omega)] at f0 f1
  obtain ⟨zs, n2, _, _, _, hzl, hg⟩ := DataW.trod_struct Tryz.underlying29 f0
  have g0 : DataW.trod enc Tryz.prog w base spare held n2 4 (([a, b].drop 0).take (Tryz.prog.cellsOf 4)) = zs[0]? := hg 0 _ rfl
  have g1 : DataW.trod enc Tryz.prog w base spare held n2 27 (([a, b].drop 1).take (Tryz.prog.cellsOf 27)) = zs[1]? := hg 1 _ rfl
  have hzl2 : zs.length = 2 := hzl
  rw [c3] at g0
  rw [c2] at g1
  rw [List.getElem?_eq_getElem (by omega)] at g0 g1
  obtain ⟨a1, m, k1, e1, p1, p2, p3, p4⟩ := u32s_of g1
  obtain ⟨a2, d, k2, e2, q1, q2, q3, q4⟩ := u32s_of f1
  obtain ⟨s, hs, _⟩ := DataW.trod_bool Tryz.underlying4 g0
  have hs : a = .bool s := by simpa using hs
  subst hs e1 e2
  exact ⟨.agg #[.bool s, .slice a1 m.length k1, .slice a2 d.length k2], (s, m, d), rfl, a1, k1, a2, k2, rfl, p1, q1, p3, q3, p2, q2, p4, q4⟩
theorem rats_of {fuel : Nat} {v : Value} {x : DataW H × List MemPlace} (h : DataW.trod enc Tryz.prog w base spare held fuel 33 [v] = some x) :
    ∃ (a : Option Addr) (L : List RawQ) (cap : Nat), v = .slice a L.length cap /\ L.length <= cap /\ cap <= 9223372036854775807 /\ Sl QR 3 w.cell? a L :=
  slice_of (R := QR) Tryz.underlying33 (by kernel_rfl) (by decide) QR.elem.size (fun _ _ _ hl h => rat_of hl h) h
theorem ratss_of {fuel : Nat} {v : Value} {x : DataW H × List MemPlace} (h : DataW.trod enc Tryz.prog w base spare held fuel 23 [v] = some x) :
    ∃ (a : Option Addr) (L : List (List RawQ)) (cap : Nat), v = .slice a L.length cap /\ L.length <= cap /\ cap <= 9223372036854775807 /\ Sl RR 1 w.cell? a L :=
  slice_of (R := RR) Tryz.underlying23 (by kernel_rfl) (by decide) RR.elem.size (fun _ cs _ hl h => by
    match cs, hl with
    | [a], _ =>
      obtain ⟨ao, L, cap, rfl, h1, h2, h3⟩ := rats_of h
      exact ⟨.slice ao L.length cap, L, rfl, ao, cap, rfl, h1, h3⟩) h
end
end Go.Proofs.YtjbhcniiioepgaaGreat
namespace Go.Rep
open Go.RowKit Go.Lim
theorem Sl.raw {X : Nat -> Bool} {w : World} {ao : Option Addr} {l : List RawQ} (s : Sl QR 3 (mk X w) ao l) (i : Nat) (hi : i < l.length) :
    ∃ g o a c d e, adr ao (i * 3) = ⟨g, o, none⟩ /\ X g = false /\ Hid (∀ Y W', ExtX Y w W' -> Y g = false -> W'.cell? ⟨g, o, none⟩ = some (.bool l[i].1) /\ W'.cell? ⟨g, o + 1, none⟩ = some (.slice a l[i].2.1.length c) /\ W'.cell? ⟨g, o + 2, none⟩ = some (.slice d l[i].2.2.length e)) /\ QR (mk X w) (.agg #[.bool l[i].1, .slice a l[i].2.1.length c, .slice d l[i].2.2.length e]) l[i] := by
  obtain ⟨u, h1, h2, h3⟩ := s.2 i hi
  obtain ⟨a, c, d, e, rfl⟩ := h3.shape
  have c0 := h2 0 (by simp [Value.cells])
  have c1 := h2 1 (by simp [Value.cells])
  have c2 := h2 2 (by simp [Value.cells])
  refine ⟨(adr ao (i * 3)).block, (adr ao (i * 3)).off, a, c, d, e, rfl, ?_, hid fun Y W' hE hY => ⟨?_, ?_, ?_⟩, h3⟩
  · cases hx : X (adr ao (i * 3)).block
    · rfl
    · have c9 : mk X w (adr ao (i * 3)) = some (.bool l[i].1) := c0
      simp [mk, hx] at c9
  · exact hE.cellY (mk_cell c0) hY
  · exact hE.cellY (mk_cell c1) hY
  · exact hE.cellY (mk_cell c2) hY
theorem Sl.rowR {α : Type} {R : Mem -> Value -> α -> Prop} {sz : Nat} {X : Nat -> Bool} {w : World} {ao : Option Addr} {m : List (List α)} (s : Sl (SlV R sz) 1 (mk X w) ao m) (i : Nat) (hi : i < m.length) :
    ∃ a c, X (adr ao i).block = false /\ Hid (∀ Y W', ExtX Y w W' -> Y (adr ao i).block = false -> W'.cell? (adr ao i) = some (.slice a m[i].length c)) /\ m[i].length <= c /\ Sl R sz (mk X w) a m[i] := by
  obtain ⟨u, h1, a, c, rfl, h2, h3⟩ := s.cell SlV.one i hi
  refine ⟨a, c, ?_, hid fun Y W' hE hY => hE.cellY (mk_cell h1) hY, h2, h3⟩
  cases hx : X (adr ao i).block
  · rfl
  · simp [mk, hx] at h1
theorem Few.dec {k n m : Nat} {x : RawQ} (h1 : x.2.1.length = n) (h2 : x.2.2.length = m) : (decide (n <= k) && decide (m <= k)) = true ↔ Few k x := by
  rw [Bool.and_eq_true, decide_eq_true_eq, decide_eq_true_eq]; subst h1 h2; exact Iff.rfl
end Go.Rep
namespace Go.Proofs.YtjbhcniiioepgaaGreat
open Go.RowKit Go.Rep Go.Lim
set_option maxRecDepth 100000 in
theorem light1_any (w : World) (s : Bool) (ao bo : Option Addr) (n c k e : Nat) : Calls Tryz.prog 105 #[.agg #[.bool s, .slice ao n c, .slice bo k e]] w (BOut w (decide (n <= 8) && decide (k <= 8))) := by
  obtain ⟨W, hW, hE, b0, hz⟩ := boxes1 w #[.bool s, .slice ao n c, .slice bo k e] 31
  obtain ⟨b, hb⟩ : ∃ b, w.heap.size = b := ⟨_, rfl⟩
  rw [hb] at b0 hz
  have k00 := b0.cell 0 rfl
  have k01 := b0.cell 1 rfl
  have k02 := b0.cell 2 rfl
  clear hz
  by_cases h1 : n <= 8
  · have h1' : (n : Int) <= 8 := by omega
    by_cases h2 : k <= 8
    · have h2' : (k : Int) <= 8 := by omega
      have hr := hid (show true = (decide (n <= 8) && decide (k <= 8)) by simp [h1, h2])
      clear h1 h2
      go_enter Tryz.func105, Tryz.ntmps105
      go_wp2_with fail
      go_ret
      exact ⟨hE, ret_bool hr.out⟩
    · have h2' : ¬ (k : Int) <= 8 := by omega
      have hr := hid (show false = (decide (n <= 8) && decide (k <= 8)) by simp [h2])
      clear h1 h2
      go_enter Tryz.func105, Tryz.ntmps105
      go_wp2_with fail
      go_ret
      exact ⟨hE, ret_bool hr.out⟩
  · have h1' : ¬ (n : Int) <= 8 := by omega
    have hr := hid (show false = (decide (n <= 8) && decide (k <= 8)) by simp [h1])
    clear h1
    go_enter Tryz.func105, Tryz.ntmps105
    go_wp2_with fail
    go_ret
    exact ⟨hE, ret_bool hr.out⟩
def lightL (l : List RawQ) (most : Nat) : Bool := decide (l.length <= most /\ ∀ x ∈ l, Few 8 x)
def lightM (m : List (List RawQ)) (r c : Nat) : Bool := decide (m.length <= r /\ ∀ x ∈ m, lightL x c = true)
set_option maxRecDepth 100000 in
theorem lightlist_any (X : Nat -> Bool) (w : World) (u : Value) (l : List RawQ) (most : Nat) (hu : RR (mk X w) u l) (hm : most <= 1000) : Calls Tryz.prog 43 #[u, .int .i64 (most : Int)] w (BOut w (lightL l most)) := by
  obtain ⟨ao, ca, rfl, hca, hsa⟩ := hu
  have hh := hsa.hd
  by_cases hl : l.length <= most
  · have hng : ¬ (most : Int) < (l.length : Int) := by omega
    have hyes : Hid ((∀ p (hp : p < l.length), Few 8 l[p]) -> lightL l most = true) := hid fun h => decide_eq_true ⟨hl, fun x hx => by obtain ⟨p, hp, rfl⟩ := List.getElem_of_mem hx; exact h p hp⟩
    have hno : Hid (∀ p (hp : p < l.length), ¬ Few 8 l[p] -> lightL l most = false) := hid fun p hp h => decide_eq_false fun h2 => h (h2.2 _ (List.getElem_mem _))
    obtain ⟨n, hn⟩ : ∃ n, l.length = n := ⟨_, rfl⟩
    have hn' := hid hn
    have hn6 : n <= 1000 := by omega
    rw [hn] at hh hng |-
    clear hl hn hca
    go_enter Tryz.func43, Tryz.ntmps43
    go_wp2_with fail
    go_loopw [5] (fun c wr => ∃ i : Nat, c = .int .i64 i /\ i <= n /\ Hid (∀ p (hp : p < l.length), p < i -> Few 8 l[p]) /\ Ext w wr) (fun c _ => n - (intOf c).toNat)
    case atStart => exact ⟨0, rfl, Nat.zero_le _, hid (fun p hp h => by omega), ExtX.refl _⟩
    case round =>
      obtain ⟨i, rfl, hi, hok, hE⟩ := hrel
      by_cases hlt : i < n
      · have hil : i < l.length := by rw [hn'.out]; exact hlt
        have hsr := hsa.mono QR.mono (mk_ext hE)
        obtain ⟨g, o, a, c, d, e, _, _, _, hq⟩ := hsr.raw i hil
        by_cases hf : Few 8 l[i]
        · have hL : Hid ((decide (l[i].2.1.length <= 8) && decide (l[i].2.2.length <= 8)) = true) := hid ((Few.dec rfl rfl).2 hf)
          have hok2 : Hid (∀ p (hp : p < l.length), p < i + 1 -> Few 8 l[p]) := hid fun p hp hpi => by
            by_cases h : p = i
            · subst h; exact hf
            · exact hok.out p hp (by omega)
          clear hf
          go_wp2_with (first | (with_reducible refine up_ixn slRat (by omega) (by assumption) ?_) | ((with_reducible show wpList _ _ _ (⟨_, .load 31 _, _, _, _, _⟩ :: _) _ _); refine st_loadElem stRat i hsr hil rfl (by simp) QR.agg ?_; intro u5 hu5; obtain ⟨a5, c5, d5, e5, rfl⟩ := hu5.shape))
          refine (light1_any wr _ _ _ _ _ _ _).mono ?_
          rintro ee w5 ⟨hE5, rfl⟩
          rw [hL.out]
          go_wp2_with fail
          go_roundw
          case rel => exact ⟨i + 1, by go_num, by omega, hok2, hE.trans hE5⟩
          case measure => simp [intOf]; omega
        · have hL : Hid ((decide (l[i].2.1.length <= 8) && decide (l[i].2.2.length <= 8)) = false) := hid (by
            cases hb : (decide (l[i].2.1.length <= 8) && decide (l[i].2.2.length <= 8))
            · rfl
            · exact absurd ((Few.dec rfl rfl).1 hb) hf)
          have hr := hid (hno.out i hil hf).symm
          clear hf
          go_wp2_with (first | (with_reducible refine up_ixn slRat (by omega) (by assumption) ?_) | ((with_reducible show wpList _ _ _ (⟨_, .load 31 _, _, _, _, _⟩ :: _) _ _); refine st_loadElem stRat i hsr hil rfl (by simp) QR.agg ?_; intro u5 hu5; obtain ⟨a5, c5, d5, e5, rfl⟩ := hu5.shape))
          refine (light1_any wr _ _ _ _ _ _ _).mono ?_
          rintro ee w5 ⟨hE5, rfl⟩
          rw [hL.out]
          go_wp2_with fail
          go_ret
          exact ⟨hE.trans hE5, ret_bool hr.out⟩
      · have hr := hid (hyes.out fun p hp => hok.out p hp (by rw [hn'.out] at hp; omega)).symm
        have hin : i = n := by omega
        subst hin
        go_wp2_with fail
        go_ret
        exact ⟨hE, ret_bool hr.out⟩
  · have hg : (most : Int) < (l.length : Int) := by omega
    have hr : Hid (false = lightL l most) := hid (decide_eq_false fun h => hl h.1).symm
    clear hl
    go_enter Tryz.func43, Tryz.ntmps43
    go_wp2_with fail
    go_ret
    exact ⟨ExtX.refl _, ret_bool hr.out⟩
set_option maxRecDepth 100000 in
theorem lightmat_any (X : Nat -> Bool) (w : World) (u : Value) (m : List (List RawQ)) (r c : Nat) (hu : MR (mk X w) u m) (hr : r <= 1000) (hc : c <= 1000) : Calls Tryz.prog 70 #[u, .int .i64 (r : Int), .int .i64 (c : Int)] w (BOut w (lightM m r c)) := by
  obtain ⟨ao, ca, rfl, hca, hsa⟩ := hu
  have hh := hsa.hd
  by_cases hl : m.length <= r
  · have hng : ¬ (r : Int) < (m.length : Int) := by omega
    have hyes : Hid ((∀ p (hp : p < m.length), lightL m[p] c = true) -> lightM m r c = true) := hid fun h => decide_eq_true ⟨hl, fun x hx => by obtain ⟨p, hp, rfl⟩ := List.getElem_of_mem hx; exact h p hp⟩
    have hno : Hid (∀ p (hp : p < m.length), lightL m[p] c = false -> lightM m r c = false) := hid fun p hp h => decide_eq_false fun h2 => by have := h2.2 _ (List.getElem_mem hp); rw [h] at this; simp at this
    obtain ⟨n, hn⟩ : ∃ n, m.length = n := ⟨_, rfl⟩
    have hn' := hid hn
    have hn6 : n <= 1000 := by omega
    rw [hn] at hh hng |-
    clear hl hn hca
    go_enter Tryz.func70, Tryz.ntmps70
    go_wp2_with fail
    go_loopw [7] (fun cc wr => ∃ i : Nat, cc = .int .i64 i /\ i <= n /\ Hid (∀ p (hp : p < m.length), p < i -> lightL m[p] c = true) /\ Ext w wr) (fun cc _ => n - (intOf cc).toNat)
    case atStart => exact ⟨0, rfl, Nat.zero_le _, hid (fun p hp h => by omega), ExtX.refl _⟩
    case round =>
      obtain ⟨i, rfl, hi, hok, hE⟩ := hrel
      by_cases hlt : i < n
      · have hil : i < m.length := by rw [hn'.out]; exact hlt
        have hsr := hsa.mono RR.mono (mk_ext hE)
        obtain ⟨a1, c1, hX1, hc1, hcl1, hq1⟩ := hsr.rowR i hil
        have k00 := hc1.out noY wr (ExtX.refl _) rfl
        have hll := lightlist_any X wr (.slice a1 m[i].length c1) m[i] c ⟨a1, c1, rfl, hcl1, hq1⟩ hc
        clear hc1 hq1
        cases hf : lightL m[i] c
        · rw [hf] at hll
          have hr := hid (hno.out i hil hf).symm
          clear hf
          go_wp2_with (with_reducible refine up_ix1 slRats (by omega) (by assumption) ?_)
          refine hll.mono ?_
          rintro ee w5 ⟨hE5, rfl⟩
          clear k00
          go_wp2_with fail
          go_ret
          exact ⟨hE.trans hE5, ret_bool hr.out⟩
        · rw [hf] at hll
          have hok2 : Hid (∀ p (hp : p < m.length), p < i + 1 -> lightL m[p] c = true) := hid fun p hp hpi => by
            by_cases h : p = i
            · subst h; exact hf
            · exact hok.out p hp (by omega)
          clear hf
          go_wp2_with (with_reducible refine up_ix1 slRats (by omega) (by assumption) ?_)
          refine hll.mono ?_
          rintro ee w5 ⟨hE5, rfl⟩
          clear k00
          go_wp2_with fail
          go_roundw
          case rel => exact ⟨i + 1, by go_num, by omega, hok2, hE.trans hE5⟩
          case measure => simp [intOf]; omega
      · have hr := hid (hyes.out fun p hp => hok.out p hp (by rw [hn'.out] at hp; omega)).symm
        have hin : i = n := by omega
        subst hin
        go_wp2_with fail
        go_ret
        exact ⟨hE, ret_bool hr.out⟩
  · have hg : (r : Int) < (m.length : Int) := by omega
    have hr : Hid (false = lightM m r c) := hid (decide_eq_false fun h => hl h.1).symm
    clear hl
    go_enter Tryz.func70, Tryz.ntmps70
    go_wp2_with fail
    go_ret
    exact ⟨ExtX.refl _, ret_bool hr.out⟩
end Go.Proofs.YtjbhcniiioepgaaGreat
