/- Parts of a proof: each theorem states what it proves, and its conditions. -/
import Derived.Test.YthipmbmjodhiiaaGreatHxL
namespace Go.Lin
open Go.Lim Go.Rep
theorem rN_len_mono (m : Mat) {j : Nat} : ∀ {c : Nat}, j <= c -> (rN m j).2.1.length <= (rN m c).2.1.length := by
  intro c
  induction c with
  | zero => intro h; obtain rfl : j = 0 := by omega
            exact Nat.le_refl _
  | succ c ih =>
    intro h
    rcases Nat.lt_or_ge j (c + 1) with h1 | h1
    · refine Nat.le_trans (ih (by omega)) ?_
      show _ <= (rStep (rN m c) c).2.1.length
      unfold rStep
      split
      · exact Nat.le_refl _
      · simp
    · obtain rfl : j = c + 1 := by omega
      exact Nat.le_refl _
theorem tamer_rank {n c B k : Nat} {m : Mat} (hs : Shp n c m) (h : HB B m) (hk : (redP m c).2.length <= k) (hB : 6 * (6 ^ k * B) <= 68719476736) : TameR m c := by
  rw [(red_eq hs).2] at hk
  refine ⟨6 ^ k * B, hB, fun j hj => ?_⟩
  obtain ⟨h1, h2⟩ := h.rN hs j
  have hp : 6 ^ (rN m j).2.1.length * B <= 6 ^ k * B := Nat.mul_le_mul_right _ (Nat.pow_le_pow_right (by decide) (Nat.le_trans (rN_len_mono m hj) hk))
  exact ⟨h1.mono hp, Nat.le_trans h2 hp⟩
end Go.Lin
namespace Go.Lim
theorem ch_12 (n : Nat) : ch n 1 <= n /\ ch n 2 <= n * n := by
  induction n with
  | zero => decide
  | succ n ih =>
    obtain ⟨h1, h2⟩ := ih
    have e1 : ch (n + 1) 1 = ch n 0 + ch n 1 := rfl
    have e2 : ch (n + 1) 2 = ch n 1 + ch n 2 := rfl
    rw [ch_zero] at e1
    have e3 : (n + 1) * (n + 1) = n * n + 2 * n + 1 := by rw [Nat.add_mul, Nat.mul_add]; omega
    omega
end Go.Lim
namespace Go.Proofs.YthipmbmjodhiiaaGreat
open Go.RowKit Go.Rep Go.Lim Go.Lin
theorem slIntsR : SliceT Tryz.prog 59 22 1 24 (.slice none 0 0) := ⟨Tryz.underlying59, by kernel_rfl⟩
def DepOut (w : World) (c : Nat) (z : Mat) (e : Ending) (w' : World) : Prop := Ext w w' /\ ∃ k : Nat, e = .returned (.int .i64 (k : Int)) /\ k <= z.length /\ IsDep c (vecs z) k
theorem rof (X : Nat -> Bool) (w : World) (v : Int) (hX : HX X w) (h1 : -9223372036854775808 <= v) (h2 : v <= 9223372036854775807) : Calls Tryz.prog 100 #[.int .i64 v] w (ROut X w QC v) := by
  obtain ⟨W, hW, hE, b0, hz⟩ := boxes1 w #[.bool false, .slice none 0 0, .slice none 0 0] 34
  have hXW : HX (hidB X w.heap.size 1) W := hX.boxes hz
  obtain ⟨b, hb⟩ : ∃ b, w.heap.size = b := ⟨_, rfl⟩
  have hbw : w.heap.size <= b := by omega
  rw [hb] at b0 hz hXW
  have h1' := hid h1
  have h2' := hid h2
  clear h1 h2
  go_enter Tryz.func100, Tryz.ntmps100
  go_wp2_with fail
  refine (rqfrom (hidB X b 1) W v hXW h1'.out h2'.out).mono ?_
  rintro e1 w1 ⟨hE1, u1, rfl, hu1⟩
  obtain ⟨s6, a6, n6, c6, d6, k6, e6, rfl⟩ := hu1.shape
  have b1' := b0.ext0 hE1
  go_wp2_with ((with_reducible show wpList _ _ _ (⟨_, .store _ _ _, _, _, _, _⟩ :: _) _ _); refine st_storeBox stRat rfl rfl b1' rfl rfl (one3 _ _ _ _ _ _ _) ?_; intro w7 r1 r2)
  have h7 := QC.mono _ _ _ _ le_unbox (QC.mono _ _ _ _ (le_store r2 (by omega) (by omega)) hu1)
  exact bodyPost_ret (results_box rfl rfl stRat r1 rfl) rfl ⟨ExtX.box (hE.trans hE1) r2 (by omega), _, rfl, h7⟩
set_option maxRecDepth 100000 in
set_option maxHeartbeats 3200000 in
theorem rleast_any : ∀ (n : Nat) (X : Nat -> Bool) (w : World) (u : Value) (z : List (List Rat)) (c B : Nat), HX X w -> MV (mk X w) u z -> Shp n c z -> n <= 64 -> 1 <= c -> c <= 3 -> BM B z -> 1 <= B -> B <= 6500 ->
    Calls Tryz.prog 64 #[u] w (DepOut w c z) := by
  intro n
  induction n using Nat.strongRecOn with
  | _ n ih =>
  intro X w u z c B hX hu hs hn hc1 hc3 hzB hB1 hB
  have ih' := hid ih
  clear ih
  obtain ⟨p, hp, hred⟩ : ∃ p : List Nat, (p = [] -> IsDep c (vecs z) n) /\ (p ≠ [] -> p = (redP z c).2) /\ Calls Tryz.prog 97 #[u] w (fun e w' => Ext w w' /\ ∃ ov po pc, e = .returned (.tuple #[ov, .slice po p.length pc, .int .i64 0]) /\ p.length <= pc /\ Sl (NatIn .i64) 1 (mk X w') po p) := by
    have hzl := hs.1
    by_cases h0 : n = 0
    · subst h0
      obtain rfl : z = [] := List.eq_nil_of_length_eq_zero hzl
      refine ⟨[], fun _ => dep_nil (by omega), fun h => absurd rfl h, (rredu_ok X w u [] 0 0 hX hu rfl rfl rfl ?_).mono ?_⟩
      · exact tamer_of (n := 0) (B := 1) ⟨rfl, fun r hr => by simp at hr⟩ (fun i j => by unfold ent; simp [hq_zero]) (by decide)
      · rintro e w' ⟨h1, oo, co, po, pc, h2, h3, h4, h5, h6⟩
        exact ⟨h1, _, po, pc, h2, h4, h6⟩
    · obtain ⟨hf, hcol⟩ := formedB_of hs (by omega) hc1 (by omega) (by omega)
      have hhb := bm_hb hzB hB1
      have hT := tamer_rank hs hhb (piv_le_cols hs) (by
        have h1 : 6 ^ c <= 6 ^ 3 := Nat.pow_le_pow_right (by decide) hc3
        have h2 := Nat.mul_le_mul h1 hB
        have e : 6 ^ 3 * 6500 = 1404000 := by decide
        omega)
      refine ⟨(redP z c).2, fun h => ?_, fun _ => rfl, (rredu_ok X w u z n c hX hu hf hzl hcol hT).mono ?_⟩
      · have := dep_none hs (by omega) (by rw [h]; rfl)
        rwa [hzl] at this
      · rintro e w' ⟨h1, oo, co, po, pc, h2, h3, h4, h5, h6⟩
        rw [<- (red_eq hs).2] at h2 h4 h6
        exact ⟨h1, _, po, pc, h2, h4, h6⟩
  obtain ⟨hp2, hred⟩ := hred
  have hzl : z.length = n := hs.1
  obtain ⟨d, hd⟩ : ∃ d, p.length = d := ⟨_, rfl⟩
  have hd' := hid hd
  have hpp := hid (⟨hp, hp2⟩ : (p = [] -> IsDep c (vecs z) n) /\ (p ≠ [] -> p = (redP z c).2))
  have hs' := hid hs
  have hu0 := hu
  obtain ⟨ua, uca, rfl, huca, hua⟩ := hu
  have hzl' := hid hzl
  rw [hzl] at huca hu0 hred |-
  have hpk := hid (fun w' (h : Ext w w') po pc (h1 : Sl (NatIn .i64) 1 (mk X w') po p) (h2 : p.length <= pc) (h3 : p ≠ []) => rpick_any X w' (.slice ua n uca) z po p pc c (hX.ext h) (mkx MV.mono hu0 h) hs.2 (by omega) h1 h2 (by rw [hp2 h3]; have := piv_le_cols hs; omega) (by rw [hp2 h3]; intro x hx; obtain ⟨q, hq, rfl⟩ := List.getElem_of_mem hx; exact (redP_ok hs).2.1.lt q hq))
  rw [hd] at hred
  unfold DepOut
  rw [hzl]
  have hzL := hid hzl
  clear hp hp2 hs hzl hd hua
  by_cases hd0 : d = 0
  · subst hd0
    have hdep := hid (hpp.out.1 (List.eq_nil_of_length_eq_zero hd'.out))
    go_enter Tryz.func64, Tryz.ntmps64
    go_wp2_with fail
    refine hred.mono ?_
    rintro e w1 ⟨hE1, ov, po, pc, rfl, hpc, hps⟩
    clear hred
    go_wp2_with fail
    go_ret
    exact ⟨hE1, n, rfl, Nat.le_refl _, hdep.out⟩
  have hpne : p ≠ [] := fun h => hd0 (by rw [<- hd'.out, h]; rfl)
  have hpe := hpp.out.2 hpne
  have hdep := hid (fun k (h : IsDep d (vecs (pickC z p)) k) => (dep_piv hs'.out (k := k) (by rw [<- hpe]; rw [hd'.out]; exact h)))
  have hZs : Shp n d (pickC z p) := by
    have := pickC_shp z p
    rw [hs'.out.1, hd'.out] at this; exact this
  have hZB : BM B (pickC z p) := pickC_bm hzB hB1
  have hdn : d <= n := by have := piv_le_rows hs'.out; rw [<- hpe, hd'.out] at this; exact this
  have hd3 : d <= 3 := by have := piv_le_cols hs'.out; rw [<- hpe, hd'.out] at this; omega
  have hless := hid (fun (L : List Rat) (h : nz d (vec L)) => (by
    have := ref_less hs'.out (u := L) (by rw [<- hpe, hd'.out]; exact h)
    rw [<- hpe, hd'.out, hs'.out.1] at this; exact this : (onM d L (pickC z p)).length < n))
  have hrd := hid (fun (k cnt : Nat) (hk : IsDep d (vecs (pickC z p)) k) (hkc : k <= cnt) (r : Nat) (hr : d = r + 1) (ht : ∀ I : List Nat, I.length = r -> I.Pairwise (· < ·) -> (∀ i ∈ I, i < z.length) -> Tried (r + 1) (vecs (pickC z p)) [] cnt I) => (by
    subst hr
    have h1 : (redP z c).2.length = r + 1 := by rw [<- hpe]; exact hd'.out
    rw [hpe] at hk ht
    exact ref_done hs'.out h1 hk hkc ht : IsDep c (vecs z) cnt))
  have hpk' := hid (fun w' h po pc h1 h2 => hpk.out w' h po pc h1 h2 hpne)
  obtain ⟨Z, hZ⟩ : ∃ Z, pickC z p = Z := ⟨_, rfl⟩
  rw [hZ] at hdep hZs hZB hless hrd hpk'
  obtain ⟨k, hk⟩ := dep_ex (c := d) (by omega) (vecs Z)
  have hZl : Z.length = n := hZs.1
  clear hZ hpe hpne hpp hpk hs' hc1 hc3
  by_cases hd1 : d = 1
  · subst hd1
    have h1 := dep_one Z
    rw [hZl] at h1
    have hfin := hid (hdep.out _ h1)
    have hcnt := hid (fun w' (uz uo : Value) (hX' : HX X w') (ha : MV (mk X w') uz Z) (hb : RV (mk X w') uo [1]) => rcnt_any X w' uz uo Z [1] 1 B 1 hX' ha hb hZs.2 rfl (by decide) (by omega) hZB (fun q hq => by rw [List.mem_singleton.1 hq]; decide +kernel) hB1 (by decide) (by omega))
    have hpl := posM_le 1 [1] Z
    have hnl := negM_le 1 [1] Z
    rw [hZl] at hpl hnl
    obtain ⟨P, hP⟩ : ∃ P, posM 1 [1] Z = P := ⟨_, rfl⟩
    obtain ⟨Q, hQ⟩ : ∃ Q, negM 1 [1] Z = Q := ⟨_, rfl⟩
    rw [hP, hQ] at hfin hcnt
    rw [hP] at hpl
    rw [hQ] at hnl
    have hv1 : Hid ((((1 : Int) : Rat)) = 1) := hid rfl
    have hZl' := hid hZl
    clear h1 hP hQ hdep hZs hZB hless hrd hk hd0 hZl
    go_enter Tryz.func64, Tryz.ntmps64
    go_wp2_with fail
    refine hred.mono ?_
    rintro e w1 ⟨hE1, ov, po, pc, rfl, hpc, hps⟩
    have hpk1 := hpk'.out w1 hE1 po pc hps (by rw [hd'.out]; exact hpc)
    rw [hd'.out] at hpk1
    clear hred
    go_wp2_with fail
    refine hpk1.mono ?_
    rintro e w2 ⟨hE2, u2, rfl, ao2, c2, rfl, hc2, hs2⟩
    rw [hZl'.out] at hc2 |-
    have hX2 := hX.ext (hE1.trans hE2)
    go_wp2_with fail
    refine (rof X w2 1 hX2 (by decide) (by decide)).mono ?_
    rintro e w3 ⟨hE3, u3, rfl, hu3⟩
    obtain ⟨s3, a3, n3, c3, d3, k3, e3, rfl⟩ := hu3.shape
    rw [hv1.out] at hu3
    have hX3 := hX2.ext hE3
    have hL := (lit_rat1 X w3 s3 a3 n3 c3 d3 k3 e3 1 34 hX3 hu3).sl QC.elem
    have hEl : Ext w3 (w3.alloc (.cells #[.bool s3, .slice a3 n3 c3, .slice d3 k3 e3] 34)) := (ExtX.refl _).alloc _
    have hZ4 : MV (mk X (w3.alloc (.cells #[.bool s3, .slice a3 n3 c3, .slice d3 k3 e3] 34))) (.slice ao2 n c2) Z := ⟨ao2, c2, by rw [hZl'.out], by rw [hZl'.out]; exact hc2, hs2.mono RV.mono (mk_ext (hE3.trans hEl))⟩
    have hO4 : RV (mk X (w3.alloc (.cells #[.bool s3, .slice a3 n3 c3, .slice d3 k3 e3] 34))) (.slice (some ⟨w3.heap.size, 0, none⟩) 1 1) [1] := ⟨_, _, rfl, Nat.le_refl _, hL.qv fun q hq => by rw [List.mem_singleton.1 hq]; decide +kernel⟩
    have hc4 := hcnt.out _ _ _ (hX3.ext hEl) hZ4 hO4
    clear hL hu3 hs2 hZ4 hO4
    go_wp2_with fail
    refine hc4.mono ?_
    rintro e w5 ⟨hE5, rfl⟩
    clear hc4
    go_wp2_with fail
    go_ret
    exact ⟨hE1.trans (hE2.trans (hE3.trans (hEl.trans hE5))), n - max P Q, by rw [show ((n - max P Q : Nat) : Int) = (n : Int) - max (P : Int) (Q : Int) by omega]; rfl, by omega, hfin.out⟩
  obtain ⟨r, rfl⟩ : ∃ r, d = r + 1 := ⟨d - 1, by omega⟩
  have hr1 : 1 <= r := by omega
  have hr2 : r <= 2 := by omega
  have hrn : r <= n := by omega
  have hkn : k <= n := by
    have := hk.le
    have e : (vecs Z).length = Z.length := by simp [vecs]
    omega
  have hhb := bm_hb hZB hB1
  have hmem := combs_mem n r 0
  have hsb : ∀ s ∈ combs n r 0, ∀ x ∈ s, 0 <= x /\ x < (Z.length : Int) := fun s h x hx => by
    have := (hmem s h).2.1 x hx
    rw [hZl]; omega
  have hbnd : ∀ s ∈ combs n r 0, Shp r (r + 1) (rowsL Z s) /\ formedB (rowsL Z s) = true /\ colsL (rowsL Z s) = r + 1 /\ HB B (rowsL Z s) := fun s h => by
    have h1 := rows_shp0 hZs (hsb s h)
    rw [(hmem s h).1] at h1
    obtain ⟨h2, h3⟩ := formedB_of h1 (by omega) (by omega) (by omega) (by omega)
    exact ⟨h1, h2, h3, hb_rows hhb (hsb s h)⟩
  have hnull := hid (fun w' um s (h : s ∈ combs n r 0) (hX' : HX X w') (hm : MV (mk X w') um (rowsL Z s)) => (by
    obtain ⟨h1, h2, h3, h4⟩ := hbnd s h
    have h6 : 6 ^ r <= 6 ^ 2 := Nat.pow_le_pow_right (by decide) hr2
    have h7 := Nat.mul_le_mul h6 hB
    exact rnull_ok X w' um (rowsL Z s) r (r + 1) hX' hm h2 h1.1 h3 (tamer_of h1 h4 (by
      have e : 6 ^ 2 * 6500 = 234000 := by decide
      omega)) : Calls Tryz.prog 101 #[um] w' (M2Out X w' (nullM (rowsL Z s) (r + 1)))))
  have hno := hid (fun s (h : s ∈ combs n r 0) (hl : (nullM (rowsL Z s) (r + 1)).length ≠ 1) cnt => (tried_none0 hZs (hsb s h) hl : Tried (r + 1) (vecs Z) [] cnt (s.map Int.toNat)))
  have hyes := hid (fun s (h : s ∈ combs n r 0) (hl : (nullM (rowsL Z s) (r + 1)).length = 1) L (hL : (nullM (rowsL Z s) (r + 1))[0]? = some L) => (by
    have hL := (List.getElem?_eq_some_iff.1 hL).2
    obtain ⟨h1, h2, h3⟩ := null_one0 hZs (hsb s h) hl L hL
    obtain ⟨g1, g2, g3, g4⟩ := hbnd s h
    have h5 := hb_bm (nullM_hb (k := 2) g4 g1 (by have := piv_le_rows g1; omega))
    have h6 : BR (35 ^ 2 * B) L := by rw [<- hL]; exact h5 _ (List.getElem_mem _)
    exact ⟨h1, h6, hless.out L h2, fun cnt l hc hl => ref_round hk hc h2 h3 hl⟩ :
    L.length = r + 1 /\ BR (35 ^ 2 * B) L /\ (onM (r + 1) L Z).length < n /\ ∀ cnt l, k <= cnt -> IsDep (r + 1) (vecs (onM (r + 1) L Z)) l ->
      k <= min cnt (min (posM (r + 1) L Z) (negM (r + 1) L Z) + l) /\ Tried (r + 1) (vecs Z) [] (min cnt (min (posM (r + 1) L Z) (negM (r + 1) L Z) + l)) (s.map Int.toNat)))
  have hdone := hid (fun cnt (hc : k <= cnt) (h : ∀ s ∈ combs n r 0, Tried (r + 1) (vecs Z) [] cnt (s.map Int.toNat)) => (hrd.out k cnt hk hc r rfl (by
    intro I h2 h3 h4
    exact all_tried n h I h2 h3 (by rw [hzL.out] at h4; exact h4)) : IsDep c (vecs z) cnt))
  have hch : ch n r <= 1000000 := by
    rcases (by omega : r = 1 \/ r = 2) with rfl | rfl
    · have := ch_12 n
      omega
    · have := ch_12 n
      have h := Nat.mul_le_mul hn hn
      omega
  have hclen : (combs n r 0).length <= 1000000 := by rw [combs_length]; exact hch
  have hmeml := hid (fun s (h : s ∈ combs n r 0) => (hmem s h).1)
  have hmemb := hid (fun s (h : s ∈ combs n r 0) x (hx : x ∈ s) => (by have := (hmem s h).2.1 x hx; omega : 0 <= x /\ x < (n : Int)))
  have hcom := combos_any X n r
  obtain ⟨C, hC⟩ : ∃ C, combs n r 0 = C := ⟨_, rfl⟩
  have hcom' := hid (fun w' (hX' : HX X w') => (by
    have := hcom w' hn hrn hch hX'
    unfold CombosOut at this
    rw [hC] at this
    exact this : Calls Tryz.prog 40 #[.int .i64 (n : Int), .int .i64 (r : Int)] w' (fun e w'' => Ext w' w'' /\ ∃ (oo : Option Addr) (co : Nat), e = .returned (.slice oo C.length co) /\ C.length <= co /\ OL (SlV (IntIn .i64) 1) 1 X w'.heap.size 22 w'' oo co C)))
  rw [hC] at hnull hno hyes hdone hclen hmeml hmemb
  have hrr : ((r + 1 : Nat) : Int) - 1 = (r : Int) := by omega
  have hZl' := hid hZl
  have hZs' := hid hZs
  have hZB' := hid hZB
  clear hhb hmem hsb hbnd hcom hC hdep hrd hk hless hZs hZB hZl hd0 hdn hch
  go_enter Tryz.func64, Tryz.ntmps64
  go_wp2_with fail
  refine hred.mono ?_
  rintro e w1 ⟨hE1, ov, po, pc, rfl, hpc, hps⟩
  have hpk1 := hpk'.out w1 hE1 po pc hps (by rw [hd'.out]; exact hpc)
  rw [hd'.out] at hpk1
  clear hred
  have hd1' : (((r + 1 : Nat) : Int) == 1) = false := beqF (by omega)
  have hd0' : (((r + 1 : Nat) : Int) == 0) = false := beqF (by omega)
  go_wp2_with fail
  refine hpk1.mono ?_
  rintro e w2 ⟨hE2, u2, rfl, za, zc, rfl, hzc, hzs⟩
  rw [hZl'.out] at hzc |-
  have hhz : Hd za n := by have := hzs.hd; rw [hZl'.out] at this; exact this
  have hE12 := hE1.trans hE2
  have hX2 := hX.ext hE12
  clear hpk1 hE1 hE2 hps hpc
  go_wp2_with fail
  refine (hcom'.out w2 hX2).mono ?_
  rintro e w3 ⟨hE3, co, cc, rfl, hcc, hCO⟩
  have hsc := hCO.sl (SlV.elem (IntIn.elem .i64))
  have hhc := hsc.hd
  have hE13 := hE12.trans hE3
  have hX3 := hX2.ext hE3
  have hz3 := hzs.mono RV.mono (mk_ext hE3)
  obtain ⟨K, hK⟩ : ∃ K, C.length = K := ⟨_, rfl⟩
  have hK' := hid hK
  rw [hK] at hcc hhc hclen |-
  clear hCO hE3 hX2 hE12 hzs hcom' hK
  go_wp2_with fail
  go_loopw [9, 61] (fun a cx wr => ∃ (q cnt : Nat), cx = .int .i64 q /\ q <= K /\ a = .int .i64 (cnt : Int) /\ k <= cnt /\ cnt <= n /\ Hid (∀ s ∈ C.take q, Tried (r + 1) (vecs Z) [] cnt (s.map Int.toNat)) /\ Ext w3 wr) (fun _ cx _ => K - (intOf cx).toNat)
  case atStart => exact ⟨0, n, rfl, Nat.zero_le _, rfl, hkn, Nat.le_refl _, hid (fun s hs => by simp at hs), ExtX.refl _⟩
  case round =>
    obtain ⟨q, cnt, rfl, hq, rfl, hkc, hcn, hT, hE⟩ := hrel
    have hXr := hX3.ext hE
    by_cases hlt : q < K
    · have hqC : q < C.length := by rw [hK'.out]; exact hlt
      obtain ⟨so, sc, f37, h3', s3⟩ := hsc.slice q hqC
      have f3 := hE.cell f37
      have hsm : C[q] ∈ C := List.getElem_mem _
      have hnu := hid (fun w' um => hnull.out w' um C[q] hsm)
      have hno1 := hid (hno.out C[q] hsm)
      have hye1 := hid (hyes.out C[q] hsm)
      have hsl := hid (hmeml.out C[q] hsm)
      have hsbb := hid (hmemb.out C[q] hsm)
      have hTn := hid (fun cnt' (hle : cnt' <= cnt) (h : Tried (r + 1) (vecs Z) [] cnt' (C[q].map Int.toNat)) => (by
        intro s hs
        rw [<- List.take_append_getElem hqC] at hs
        rcases List.mem_append.1 hs with h2 | h2
        · exact (hT.out s h2).le hle
        · rw [List.mem_singleton.1 h2]; exact h : ∀ s ∈ C.take (q + 1), Tried (r + 1) (vecs Z) [] cnt' (s.map Int.toNat)))
      have hsr := s3.mono (IntIn.mono _) (mk_ext hE)
      have hhs := hsr.hd
      obtain ⟨s, hs⟩ : ∃ s, C[q] = s := ⟨_, rfl⟩
      rw [hs] at f3 h3' hnu hno1 hsl hsbb hTn hhs hsr
      have hye2 : Hid (∀ (hl : (nullM (rowsL Z s) (r + 1)).length = 1) L (_ : (nullM (rowsL Z s) (r + 1))[0]? = some L), L.length = r + 1 /\ BR (35 ^ 2 * B) L /\ (onM (r + 1) L Z).length < n /\ ∀ cnt l, k <= cnt -> IsDep (r + 1) (vecs (onM (r + 1) L Z)) l ->
        k <= min cnt (min (posM (r + 1) L Z) (negM (r + 1) L Z) + l) /\ Tried (r + 1) (vecs Z) [] (min cnt (min (posM (r + 1) L Z) (negM (r + 1) L Z) + l)) (s.map Int.toNat)) := by subst hs; exact hye1
      obtain ⟨M, hM⟩ : ∃ M, rowsL Z s = M := ⟨_, rfl⟩
      have hMl : M.length = s.length := by rw [<- hM]; exact rowsL_len Z s
      have hMi := hid (show ∀ j (h1 : j < M.length) (h2 : j < s.length) (i : Nat) (h3 : i < Z.length), s[j] = (i : Int) -> M[j] = Z[i] from fun j h1 h2 i h3 h => by subst hM; exact rowsL_get h1 h2 h3 h)
      rw [hM] at hnu hno1 hye2
      rw [hsl.out] at f3 h3' hhs hMl
      have hMl' := hid hMl
      have hMl1 : M.length <= r := by omega
      have hMl2 : r <= M.length := by omega
      clear hM hMl hs s3 f37 hye1
      obtain ⟨wo, hwo⟩ : ∃ wo, wo = wr := ⟨_, rfl⟩
      subst hwo
      go_wp2_with (with_reducible refine up_ix1 slIntsR (by omega) (by assumption) ?_)
      go_loopw [12, 67] (fun o cx wx => ∃ (j : Nat) (mo : Option Addr) (mc : Nat), cx = .int .i64 j /\ o = .slice mo j mc /\ j <= r /\ OL RV 1 X wo.heap.size 27 wx mo mc (M.take j) /\ Ext wo wx) (fun _ cx _ => r - (intOf cx).toNat)
      case atStart => exact ⟨0, none, 0, rfl, rfl, Nat.zero_le _, OL.nil _ _ _ _ _ _, ExtX.refl _⟩
      case round =>
        obtain ⟨j, mo, mc, rfl, rfl, hj, hO, hEj⟩ := hrel
        have hXj : HX X wr := hXr.ext hEj
        have hbj := hEj.size
        clear f3
        by_cases hlj : j < r
        · have hjs : j < s.length := by rw [hsl.out]; exact hlj
          have hjM : j < M.length := by omega
          have htk := hid (take_snoc M j hjM)
          have hln := hid (len_take (l := M) (i := j) (by omega))
          have hcj := (hsr.mono (IntIn.mono _) (mk_ext hEj)).int j hjs
          obtain ⟨h1, h2⟩ := hsbb.out s[j] (List.getElem_mem _)
          obtain ⟨i, hi⟩ := Int.eq_ofNat_of_zero_le h1
          have hin : i < n := by omega
          have hiZ : i < Z.length := by rw [hZl'.out]; exact hin
          have hMq := hMi.out j hjM hjs i hiZ hi
          rw [hi] at hcj
          have hzr : Sl RV 1 (mk (un X mo) wr) za Z := (hz3.mono RV.mono (mk_ext hE)).old RV.mono hEj (fun j hj => hO.ob_lt hj)
          obtain ⟨a1, c1, hX1, hc1, hcl1, hq1⟩ := hzr.row i hiZ
          have k00 := hc1.out noY wr (ExtX.refl _) rfl
          obtain ⟨x, hx⟩ : ∃ x, Z[i] = x := ⟨_, rfl⟩
          rw [hx] at k00 hcl1 hq1 hMq
          rw [hMq] at htk
          have hRV : RV (mk (un X mo) wr) (.slice a1 x.length c1) x := ⟨a1, c1, rfl, hcl1, hq1⟩
          obtain ⟨dd, hdd⟩ : ∃ dd, x.length = dd := ⟨_, rfl⟩
          rw [hdd] at k00 hRV
          clear hx hc1 hcl1 hq1 hMq hdd h1 h2 hi
          go_wp2_with (first
            | (with_reducible refine up_ix1 slInt (by omega) (by assumption) ?_)
            | (with_reducible refine up_ix1 slRats (by omega) (by assumption) ?_)
            | (at_builtin; refine st_append1n (l := M.take j) slRats rfl RV.elem hbj hXj j hln.out rfl rfl hO (.slice a1 dd c1) x rfl hRV (by omega) (by omega) ?_; intro oo2 co2 w7 hO7 hE7 hor))
          have hE8 := hEj.own hO (Nat.le_refl _) hE7
          rw [htk.out] at hO7
          go_roundw
          case rel => exact ⟨j + 1, oo2, co2, by go_num, by go_num, by omega, hO7, hE8⟩
          case measure => simp [intOf]; omega
        · have hjr : r = j := by omega
          subst hjr
          rw [List.take_of_length_le (by omega)] at hO
          have hmc := hO.lenCap
          have hnc := hnu.out wr (.slice mo r mc) hXj ⟨mo, mc, by rw [hMl'.out], hmc, hO.sl RV.elem⟩
          have hEw := hE.trans hEj
          clear hnu hlj hO
          obtain ⟨N, hN⟩ : ∃ N, nullM M (r + 1) = N := ⟨_, rfl⟩
          rw [hN] at hnc hno1 hye2
          obtain ⟨nl, hnl⟩ : ∃ nl, N.length = nl := ⟨_, rfl⟩
          have hnl' := hid hnl
          clear hN hnl
          go_wp2_with fail
          refine hnc.mono ?_
          rintro e w5 ⟨hE5, u5, rfl, no, nc, rfl, hncc, hns⟩
          have hhn := hns.hd
          rw [hnl'.out] at hncc hhn |-
          have hE35 := hEw.trans hE5
          have hX5 := hX3.ext hE35
          clear hnc
          by_cases hl1 : nl = 1
          rotate_left 1
          · have d1 : ((nl : Int) != 1) = true := bneT (by omega)
            have hTq := hid (hTn.out cnt (Nat.le_refl _) (hno1.out (by rw [hnl'.out]; exact hl1) cnt))
            go_wp2_with fail
            go_roundw
            case rel => exact ⟨q + 1, cnt, by go_num, by omega, rfl, hkc, hcn, hTq, hE35⟩
            case measure => simp [intOf]; omega
          · subst hl1
            obtain ⟨hLl, hLB, hLn, hrnd⟩ := hye2.out hnl'.out (N[0]'(by rw [hnl'.out]; decide)) (List.getElem?_eq_getElem _)
            have h0N : 0 < N.length := by rw [hnl'.out]; decide
            obtain ⟨a1, c1, hX1, hc1, hcl1, hq1⟩ := hns.row 0 h0N
            have k00 := hc1.out noY w5 (ExtX.refl _) rfl
            have hB2 : 35 ^ 2 * B <= 7962500 := by
              have e : 35 ^ 2 = 1225 := by decide
              rw [e]; omega
            have hLC : BR 7962500 N[0] := fun q hq => Nat.le_trans (hLB q hq) hB2
            have hLRV : RV (mk X w5) (.slice a1 N[0].length c1) N[0] := ⟨a1, c1, rfl, hcl1, hq1.qv fun q hq => Nat.le_trans (hLC q hq) (by decide)⟩
            obtain ⟨L, hL⟩ : ∃ L, N[0] = L := ⟨_, rfl⟩
            rw [hL] at hLl hLn hrnd k00 hLC hLRV
            rw [hLl] at k00 hLRV
            have hz5 : MV (mk X w5) (.slice za n zc) Z := ⟨za, zc, by rw [hZl'.out], by rw [hZl'.out]; exact hzc, hz3.mono RV.mono (mk_ext hE35)⟩
            have hcn5 := rcnt_any X w5 (.slice za n zc) (.slice a1 (r + 1) c1) Z L (r + 1) B 7962500 hX5 hz5 hLRV hZs'.out.2 hLl (by omega) (by rw [hZl'.out]; omega) hZB'.out hLC hB1 (by decide) (by omega)
            have hPl := posM_le (r + 1) L Z
            have hQl := negM_le (r + 1) L Z
            rw [hZl'.out] at hPl hQl
            obtain ⟨P, hP⟩ : ∃ P, posM (r + 1) L Z = P := ⟨_, rfl⟩
            obtain ⟨Q, hQ⟩ : ∃ Q, negM (r + 1) L Z = Q := ⟨_, rfl⟩
            rw [hP] at hPl hcn5 hrnd
            rw [hQ] at hQl hcn5 hrnd
            have hrnd' := hid hrnd
            have hLl' := hid hLl
            have hLC' := hid hLC
            have hS0 : Hid (∀ Y W', ExtX Y w5 W' -> Y (adr no 0).block = false -> W'.cell? (adr no 0) = some (.slice a1 (r + 1) c1)) := hid fun Y W' h1 h2 => by
              have := hc1.out Y W' h1 h2
              rw [hL, hLl'.out] at this; exact this
            clear hP hQ hL hLB hq1 hz5 hnl' hno1 hrnd hLl hLC hcl1 hc1 h0N hye2
            go_wp2_with (with_reducible refine up_ix1 slRats (by omega) (by assumption) ?_)
            refine hcn5.mono ?_
            rintro e w6 ⟨hE6, rfl⟩
            have hE36 := hE35.trans hE6
            have hLR6 := mkx RV.mono hLRV hE6
            clear hcn5 k00 hLRV
            go_wp2_with fail
            go_loopw [19, 97] (fun o cx wx => ∃ (i : Nat) (fo : Option Addr) (fc : Nat) (F : List (List Rat)), cx = .int .i64 i /\ i <= n /\ o = .slice fo F.length fc /\ F.length <= i /\ Hid (F = onM (r + 1) L (Z.take i)) /\ OL RV 1 X w6.heap.size 27 wx fo fc F /\ Ext w6 wx) (fun _ cx _ => n - (intOf cx).toNat)
            case atStart => exact ⟨0, none, 0, [], rfl, Nat.zero_le _, rfl, Nat.zero_le _, hid rfl, OL.nil _ _ _ _ _ _, ExtX.refl _⟩
            case round =>
              obtain ⟨i, fo, fc, F, rfl, hi, rfl, hFl, hFe, hO, hEi⟩ := hrel
              have hE3i := hE36.trans hEi
              have hXi := hX3.ext hE3i
              have hbi := hEi.size
              by_cases hli : i < n
              · have hiZ : i < Z.length := by rw [hZl'.out]; exact hli
                have hzr : Sl RV 1 (mk (un X fo) wr) za Z := (hz3.mono RV.mono (mk_ext hE36)).old RV.mono hEi (fun j hj => hO.ob_lt hj)
                obtain ⟨a2, c2, hX2, hc2, hcl2, hq2⟩ := hzr.row i hiZ
                have k00 := hc2.out noY wr (ExtX.refl _) rfl
                have k01 := hS0.out noY wr (hE6.trans hEi) rfl
                have hvl := hZs'.out.2 Z[i] (List.getElem_mem _)
                have hvB := hZB'.out Z[i] (List.getElem_mem _)
                have hos := hid (onM_succ (r + 1) L hiZ)
                have hdv := hid (dot_vec (u := L) (z := Z[i]) hLl'.out)
                have hdb := dot_bounds2 (l := L) (m := Z[i]) hLC'.out hvB (by decide) hB1 (by
                  rw [hLl'.out]
                  have : (r + 1) * (7962500 + B + 1) <= 3 * (7962500 + B + 1) := Nat.mul_le_mul_right _ (by omega)
                  omega)
                have hvU : RV (mk (un X fo) wr) (.slice a2 Z[i].length c2) Z[i] := ⟨a2, c2, rfl, hcl2, hq2⟩
                have hvX : RV (mk X wr) (.slice a2 Z[i].length c2) Z[i] := RV.mono _ _ _ _ (mk_sub (X := X) fun k _ hk => un_left hk) hvU
                have hdot := rdot23_any X wr (.slice a1 (r + 1) c1) (.slice a2 Z[i].length c2) L Z[i] hXi (mkx RV.mono hLR6 hEi) hvX (by rw [hLl'.out]; omega) (by rw [hLl'.out]; exact hvl) hdb.1 hdb.2
                have hdq : Hid (Go.Lim.hq (dotL L Z[i]) <= 68719476736) := hid (hdb.1 _ (Nat.le_refl _))
                rw [<- hdv.out] at hos
                rw [hvl] at k00 hdot hvU
                obtain ⟨D, hD⟩ : ∃ D, dotL L Z[i] = D := ⟨_, rfl⟩
                obtain ⟨v, hv⟩ : ∃ v, Z[i] = v := ⟨_, rfl⟩
                rw [hD] at hos hdot hdq
                rw [hv] at hos hvU
                clear hc2 hvl hvB hdb hD hdv hcl2 hq2 hv hvX
                have hfl : Hid (F.length = F.length) := hid rfl
                have hcase : D.num.sign = 0 \/ D.num.sign ≠ 0 := by omega
                rcases hcase with hsg | hsg
                · have hD0 : D = 0 := by rcases sign_cases D with h | h | h
                                         · omega
                                         · exact h.1
                                         · omega
                  have hF2 : Hid (F ++ [v] = onM (r + 1) L (Z.take (i + 1))) := hid (by rw [hos.out, if_pos hD0, <- hFe.out])
                  have hsg' := hid hsg
                  clear hsg hD0 hos
                  go_wp2_with (with_reducible refine up_ix1 slRats (by omega) (by assumption) ?_)
                  refine hdot.mono ?_
                  rintro e w7 ⟨hE7, u7, rfl, hu7⟩
                  go_wp2_with fail
                  refine (rqsign X w7 u7 D (hXi.ext hE7) (hu7.qv hdq.out)).mono ?_
                  rintro e w8 ⟨hE8, rfl⟩
                  rw [hsg'.out]
                  have hE78 := hE7.trans hE8
                  have hO8 := hO.ext0 RV.elem hE78
                  have hX8 := hXi.ext hE78
                  have hv8 := mkx RV.mono hvU hE78
                  have hb8 := (hEi.trans hE78).size
                  clear k00 k01 hdot
                  go_wp2_with (at_builtin; refine st_append1n (l := F) slRats rfl RV.elem hb8 hX8 F.length rfl rfl rfl hO8 (.slice a2 (r + 1) c2) v rfl hv8 (by omega) (by omega) ?_; intro oo2 co2 w9 hO9 hE9 hor)
                  have hE10 := (hEi.trans hE78).own hO8 (Nat.le_refl _) hE9
                  have hl9 : (F ++ [v]).length = F.length + 1 := by simp
                  go_roundw
                  case rel => exact ⟨i + 1, oo2, co2, F ++ [v], by go_num, by omega, by rw [hl9], by omega, hF2, hO9, hE10⟩
                  case measure => simp [intOf]; omega
                · have hD0 : ¬ D = 0 := fun h => hsg (by rw [h]; rfl)
                  have hF2 : Hid (F = onM (r + 1) L (Z.take (i + 1))) := hid (by rw [hos.out, if_neg hD0, <- hFe.out, List.append_nil])
                  have hsg' : (D.num.sign == 0) = false := beqF hsg
                  clear hsg hD0 hos
                  go_wp2_with (with_reducible refine up_ix1 slRats (by omega) (by assumption) ?_)
                  refine hdot.mono ?_
                  rintro e w7 ⟨hE7, u7, rfl, hu7⟩
                  go_wp2_with fail
                  refine (rqsign X w7 u7 D (hXi.ext hE7) (hu7.qv hdq.out)).mono ?_
                  rintro e w8 ⟨hE8, rfl⟩
                  have hE78 := hE7.trans hE8
                  have hO8 := hO.ext0 RV.elem hE78
                  have hE10 := hEi.trans hE78
                  clear k00 k01 hdot
                  go_wp2_with fail
                  go_roundw
                  case rel => exact ⟨i + 1, fo, fc, F, by go_num, by omega, rfl, by omega, hF2, hO8, hE10⟩
                  case measure => simp [intOf]; omega
              · have hin : i = n := by omega
                subst hin
                have hF : F = onM (r + 1) L Z := by rw [hFe.out, List.take_of_length_le (by rw [hZl'.out]; exact Nat.le_refl _)]
                have hFs : Shp F.length (r + 1) F := ⟨rfl, fun x hx => hZs'.out.2 x (by rw [hF] at hx; exact onM_sub _ _ _ x hx)⟩
                have hFn : F.length < i := by rw [hF]; exact hLn
                have hFB : BM B F := BM.sub hZB'.out fun x hx => by rw [hF] at hx; exact onM_sub _ _ _ x hx
                have hrec := ih'.out F.length hFn X wr (.slice fo F.length fc) F (r + 1) B hXi ⟨fo, fc, rfl, hO.lenCap, hO.sl RV.elem⟩ hFs (by omega) (by omega) hd3 hFB hB1 hB
                have hrn2 := hid (fun l (h : IsDep (r + 1) (vecs F) l) => hrnd'.out cnt l hkc (by rw [<- hF]; exact h))
                clear hF hFs hFB hFe hO hrnd'
                go_wp2_with fail
                refine hrec.mono ?_
                rintro e w7 ⟨hE7, l, rfl, hll, hdl⟩
                obtain ⟨g1, g2⟩ := hrn2.out l hdl
                have hTq := hid (hTn.out _ (by omega) g2)
                have hE9 := hE3i.trans hE7
                have hwr : IntKind.i64.wrap (min (P : Int) (Q : Int) + (l : Int)) = ((min P Q + l : Nat) : Int) := by rw [IntWalk.i64_in _ (by omega)]; omega
                clear hrec hdl hrn2
                go_wp2_with fail
                go_roundw
                case rel => exact ⟨q + 1, min cnt (min P Q + l), by go_num, by omega, by rw [show ((min cnt (min P Q + l) : Nat) : Int) = min (cnt : Int) ((min P Q + l : Nat) : Int) by omega]; rfl, g1, by omega, hTq, hE9⟩
                case measure => simp [intOf]; omega
    · have hqK : q = K := by omega
      subst hqK
      have hfin := hid (hdone.out cnt hkc (by have := hT.out; rwa [List.take_of_length_le (by rw [hK'.out]; exact Nat.le_refl _)] at this))
      go_wp2_with fail
      go_ret
      exact ⟨hE13.trans hE, cnt, rfl, hcn, hfin.out⟩
end Go.Proofs.YthipmbmjodhiiaaGreat
namespace Go.Proofs.YthipmbmjodhiiaaGreat
open Go.RowKit Go.Rep Go.Lim
set_option maxRecDepth 100000 in
theorem rminus23 (X : Nat -> Bool) (w : World) (u v : Value) (l m : List Rat) (hX : HX X w) (hu : RV (mk X w) u l) (hv : RV (mk X w) v m) (hl : l.length <= 1000000) (hml : m.length = l.length) : Calls Tryz.prog 102 #[u, v] w (ROut X w RC (List.zipWith (· - ·) l m)) := by
  obtain ⟨ao, ca, rfl, hca, hsa⟩ := hu
  have hha := hsa.hd
  obtain ⟨bo, cb, rfl, hcb, hsb⟩ := hv
  have hhb := hsb.hd
  have hml1 : m.length <= l.length := by omega
  have hml2 : l.length <= m.length := by omega
  obtain ⟨L, hL⟩ : ∃ L, List.zipWith (· - ·) l m = L := ⟨_, rfl⟩
  have hLl : L.length = l.length := by rw [<- hL]; simp; omega
  have hLi := hid (show ∀ i (hi : i < l.length) (hj : i < m.length) (hi' : i < L.length), L[i] = l[i] - m[i] from fun i hi hj hi' => by subst hL; simp)
  rw [hL]
  have hLl1 : L.length <= l.length := by omega
  have hLl2 : l.length <= L.length := by omega
  have hLl' := hid hLl
  clear hL hml hLl
  go_enter Tryz.func102, Tryz.ntmps102
  go_wp2_with fail
  go_loopw [5, 9] (fun o cc wr => ∃ (i : Nat) (oo : Option Addr) (co : Nat), cc = .int .i64 i /\ o = .slice oo i co /\ i <= l.length /\ OL QC 3 X w.heap.size 34 wr oo co (L.take i) /\ Ext w wr) (fun _ cc _ => l.length - (intOf cc).toNat)
  case atStart => exact ⟨0, none, 0, rfl, rfl, Nat.zero_le _, OL.nil _ _ _ _ _ _, ExtX.refl _⟩
  case round =>
    obtain ⟨i, oo, co, rfl, rfl, hi, hO, hE⟩ := hrel
    have hXr : HX X wr := hX.ext hE
    have hXu : HX (un X oo) wr := hO.unX hXr
    have hbase := hE.size
    by_cases hlt : i < l.length
    · have hsr : Sl QV 3 (mk (un X oo) wr) ao l := hsa.old QV.mono hE (fun j hj => hO.ob_lt hj)
      have hltL : i < L.length := by omega
      have htk := hid (take_snoc L i hltL)
      have hln := hid (len_take (l := L) (i := i) (by omega))
      have hltm : i < m.length := by omega
      have hsr2 : Sl QV 3 (mk (un X oo) wr) bo m := hsb.old QV.mono hE (fun j hj => hO.ob_lt hj)
      obtain ⟨g2, o2, s2, a2, n2, c2, d2, k2, e2, hg2, hX2, hc2, hq2⟩ := hsr2.rat QV.shaped i hltm
      obtain ⟨g1, o1, s1, a1, n1, c1, d1, k1, e1, hg1, hX1, hc1, hq1⟩ := hsr.rat QV.shaped i hlt
      have hob1 := (un_false hX1).2
      have hobb := (un_false hX2).2
      have i2 : ∀ W, (Instr.indexAt 27 (.slice bo m.length cb) (.int .i64 (i : Int))).run Tryz.prog W = .ok (.pointer (some ⟨g2, o2, none⟩)) W := by rw [<- hg2]; exact run_indexAt_adr slRat bo m.length cb .i64 i hhb (by omega)
      have i1 : ∀ W, (Instr.indexAt 27 (.slice ao l.length ca) (.int .i64 (i : Int))).run Tryz.prog W = .ok (.pointer (some ⟨g1, o1, none⟩)) W := by rw [<- hg1]; exact run_indexAt_adr slRat ao l.length ca .i64 i hha (by omega)
      have hEd : Ext wr wr.drew := (ExtX.refl wr).drew
      have hS : Hid (∀ Y W', ExtX Y wr.drew W' -> Y g1 = false -> Y g2 = false -> W'.cell? ⟨g1, o1, none⟩ = some (.bool s1) /\ W'.cell? ⟨g1, o1 + 1, none⟩ = some (.slice a1 n1 c1) /\ W'.cell? ⟨g1, o1 + 2, none⟩ = some (.slice d1 k1 e1) /\ W'.cell? ⟨g2, o2, none⟩ = some (.bool s2) /\ W'.cell? ⟨g2, o2 + 1, none⟩ = some (.slice a2 n2 c2) /\ W'.cell? ⟨g2, o2 + 2, none⟩ = some (.slice d2 k2 e2)) := hid fun Y W' h hg hb => by
        have p1 := hc1.out Y W' ((ExtX.of hEd).trans h) hg
        have p2 := hc2.out Y W' ((ExtX.of hEd).trans h) hb
        exact ⟨p1.1, p1.2.1, p1.2.2, p2.1, p2.2.1, p2.2.2⟩
      obtain ⟨k00, k01, k02, k10, k11, k12⟩ := hS.out noY wr.drew (ExtX.refl _) rfl rfl
      have hxd : QV (mk (un X oo) wr.drew) (.agg #[.bool s1, .slice a1 n1 c1, .slice d1 k1 e1]) l[i] := hq1
      have hvd : QV (mk (un X oo) wr.drew) (.agg #[.bool s2, .slice a2 n2 c2, .slice d2 k2 e2]) m[i] := hq2
      have hXd : HX (un X oo) wr.drew := hXu
      have hyi := hLi.out i hlt hltm hltL
      rw [hyi] at htk
      clear hc1 hg1 hq1 hc2 hg2 hq2
      go_wp2_with fail
      go_region_held3 (fun w' => w'.cell? ⟨g1, o1, none⟩ = some (.bool s1) /\ w'.cell? ⟨g1, o1 + 1, none⟩ = some (.slice a1 n1 c1) /\ w'.cell? ⟨g1, o1 + 2, none⟩ = some (.slice d1 k1 e1) /\ w'.cell? ⟨g2, o2, none⟩ = some (.bool s2) /\ w'.cell? ⟨g2, o2 + 1, none⟩ = some (.slice a2 n2 c2) /\ w'.cell? ⟨g2, o2 + 2, none⟩ = some (.slice d2 k2 e2))
        (first | exact hS.out noY _ t1 rfl rfl | exact hS.out noY _ (ExtX.alloc t1 _) rfl rfl | exact hS.out (ob oo) _ ((ExtX.of t1).trans hE7) hob1 hobb | go_keep)
        (first | (go_at_call 18; (with_reducible refine (rqsub (un X oo) wr.drew _ _ _ _ hXd hxd hvd).mono ?_); rintro ee w6 ⟨t1, u6, rfl, hu6⟩; obtain ⟨s6, a6, n6, c6, d6, k6, e6, rfl⟩ := hu6.shape; have hO6 := hO.ext0 QC.elem (hEd.trans t1); have hb6 := (hEd.trans t1).size; have hX6 := hXr.ext (hEd.trans t1)) | (refine step_append1 (l := L.take i) rfl (by rfl) slRat rfl QC.elem (by omega) hX6 i hln.out rfl rfl hO6 (.agg #[.bool s6, .slice a6 n6 c6, .slice d6 k6 e6]) (l[i] - m[i]) rfl hu6 (by omega) (by omega) ?_; intro oo2 co2 w7 hO7 hE7 hor))
      have hE8 := (hE.trans (hEd.trans t1)).own hO6 (Nat.le_refl _) hE7
      rw [htk.out] at hO7
      clear k00 k01 k02 k10 k11 k12
      go_wp2_with fail
      go_roundw
      case rel => exact ⟨i + 1, oo2, co2, by go_num, by go_num, by omega, hO7, hE8⟩
      case measure => simp [intOf]; omega
    · have hil : i = l.length := by omega
      subst hil
      rw [List.take_of_length_le (by omega)] at hO
      have hc := hO.lenCap
      have hs := hO.sl QC.elem
      go_wp2_with fail
      go_ret
      exact ⟨hE, _, rfl, oo, co, by rw [hLl'.out]; rfl, hc, hs⟩
end Go.Proofs.YthipmbmjodhiiaaGreat
namespace Go.Proofs.YthipmbmjodhiiaaGreat
open Go.RowKit Go.Rep Go.Lim Go.Lin
set_option maxRecDepth 100000 in
theorem rfrom25 (X : Nat -> Bool) (w : World) (u v : Value) (p : List (List Rat)) (x : List Rat) (c : Nat) (hX : HX X w) (hu : MV (mk X w) u p) (hv : RV (mk X w) v x) (hsh : ∀ r ∈ p, r.length = c) (hx : x.length = c) (hc : c <= 1000) (hp : p.length <= 1000) : Calls Tryz.prog 65 #[u, v] w (ROut X w MC (fromM c p x)) := by
  obtain ⟨M, hM⟩ : ∃ M, fromM c p x = M := ⟨_, rfl⟩
  obtain ⟨n, hn⟩ : ∃ n, p.length = n := ⟨_, rfl⟩
  have hMl : Hid (M.length = n) := hid (by rw [<- hM, <- hn]; simp [fromM])
  have hMr : Hid (∀ j (hj : j < p.length) (h : j < M.length), M[j] = List.zipWith (· - ·) p[j] x) := hid fun j hj h => by subst hM; exact from_get hsh hx j hj h
  have hMl2 : M.length <= n := by rw [hMl.out]; exact Nat.le_refl _
  have hMl3 : n <= M.length := by rw [hMl.out]; exact Nat.le_refl _
  obtain ⟨ua, uca, rfl, huca, hua⟩ := hu
  have hhu := hua.hd
  obtain ⟨va, vca, rfl, hvca, hva⟩ := hv
  have hn' := hid hn
  have hsh' := hid hsh
  have hx' := hid hx
  rw [hM]
  rw [hn] at hp huca hhu |-
  clear hM hn hsh hx
  go_enter Tryz.func65, Tryz.ntmps65
  go_wp2_with fail
  go_loopw [5, 10] (fun o cc wr => ∃ (i : Nat) (oo : Option Addr) (co : Nat), cc = .int .i64 i /\ o = .slice oo i co /\ i <= n /\ OL RC 1 X w.heap.size 27 wr oo co (M.take i) /\ Ext w wr) (fun _ cc _ => n - (intOf cc).toNat)
  case atStart => exact ⟨0, none, 0, rfl, rfl, Nat.zero_le _, OL.nil _ _ _ _ _ _, ExtX.refl _⟩
  case round =>
    obtain ⟨i, oo, co, rfl, rfl, hi, hO, hE⟩ := hrel
    have hXr : HX X wr := hX.ext hE
    have hXu : HX (un X oo) wr := hO.unX hXr
    have hbase := hE.size
    by_cases hlt : i < n
    · have him : i < p.length := by rw [hn'.out]; exact hlt
      have hltM : i < M.length := by omega
      have htk := hid (take_snoc M i hltM)
      have hln := hid (len_take (l := M) (i := i) (by omega))
      have hRd := hMr.out i him hltM
      have hsr : Sl RV 1 (mk (un X oo) wr) ua p := hua.old RV.mono hE (fun j hj => hO.ob_lt hj)
      have hvr : RV (mk (un X oo) wr) (.slice va x.length vca) x := old_un RV.mono ⟨va, vca, rfl, hvca, hva⟩ hE (fun j hj => hO.ob_lt hj)
      obtain ⟨a1, c1, hX1, hc1, hcl1, hq1⟩ := hsr.row i him
      have k00 := hc1.out noY wr (ExtX.refl _) rfl
      have hrl := hid (hsh'.out p[i] (List.getElem_mem _))
      have hmi := rminus23 (un X oo) wr _ _ p[i] x hXu ⟨a1, c1, rfl, hcl1, hq1⟩ hvr (by rw [hrl.out]; omega) (by rw [hrl.out, hx'.out])
      rw [<- hRd] at hmi
      obtain ⟨R, hR⟩ : ∃ R, M[i] = R := ⟨_, rfl⟩
      rw [hR] at hmi htk
      clear hR hRd hc1
      go_wp2_with (with_reducible refine up_ix1 slRats (by omega) (by assumption) ?_)
      refine hmi.mono ?_
      rintro e w6 ⟨hE6, u6, rfl, ro, cr, rfl, hcr, hsR⟩
      have hRC : RC (mk (un X oo) w6) (.slice ro R.length cr) R := ⟨ro, cr, rfl, hcr, hsR⟩
      obtain ⟨k, hk⟩ : ∃ k, R.length = k := ⟨_, rfl⟩
      rw [hk] at hRC |-
      have hO6 := hO.ext0 RC.elem hE6
      have hb6 := hE6.size
      clear k00
      go_wp2_with (at_builtin; refine st_append1n (l := M.take i) slRats rfl RC.elem (by omega) (hXr.ext hE6) i hln.out rfl rfl hO6 (.slice ro k cr) R rfl hRC (by omega) (by omega) ?_; intro oo2 co2 w7 hO7 hE7 hor)
      have hE8 := (hE.trans hE6).own hO6 (Nat.le_refl _) hE7
      rw [htk.out] at hO7
      go_roundw
      case rel => exact ⟨i + 1, oo2, co2, by go_num, by go_num, by omega, hO7, hE8⟩
      case measure => simp [intOf]; omega
    · have hil : i = n := by omega
      subst hil
      rw [List.take_of_length_le (by omega)] at hO
      have hc := hO.lenCap
      have hs := hO.sl RC.elem
      go_wp2_with fail
      go_ret
      exact ⟨hE, _, rfl, oo, co, by rw [hMl.out]; rfl, hc, hs⟩
end Go.Proofs.YthipmbmjodhiiaaGreat
namespace Go.Proofs.YthipmbmjodhiiaaGreat
open Go.RowKit Go.Rep Go.Lim Go.Lin
def ShOut (w : World) (m : List (List Rat)) (e : Ending) (w' : World) : Prop := Ext w w' /\ ∃ a b : Nat, e = .returned (.tuple #[.int .i64 (a : Int), .int .i64 (b : Int), .bool (ptsB m)]) /\ (ptsB m = true -> a = m.length /\ b = colsL m)
theorem ptsB_no1 {α : Type} {m : List (List α)} (h : m.length < 1 \/ 64 < m.length) : ptsB m = false := by
  cases hp : ptsB m
  · rfl
  · have := ptsB_true.1 hp; omega
theorem ptsB_no2 {α : Type} {m : List (List α)} (i : Nat) (hi : i < m.length) (h : m[i].length ≠ colsL m) : ptsB m = false := by
  cases hp : ptsB m
  · rfl
  · exact absurd ((ptsB_true.1 hp).2.2.2.2 i hi) h
theorem ptsB_no3 {α : Type} {m : List (List α)} (h : colsL m < 1 \/ 3 < colsL m) : ptsB m = false := by
  cases hp : ptsB m
  · rfl
  · have := ptsB_true.1 hp; omega
set_option maxRecDepth 100000 in
theorem rshape_any {R : Mem -> Value -> Rat -> Prop} (_hR : Mono R) (X : Nat -> Bool) (w : World) (u : Value) (m : List (List Rat)) (hu : SlV (SlV R 3) 1 (mk X w) u m) (hl : m.length <= 1099511627776) : Calls Tryz.prog 62 #[u] w (ShOut w m) := by
  obtain ⟨ao, ca, rfl, hca, hsa⟩ := hu
  have hha := hsa.hd
  by_cases h1 : m.length < 1
  · have d1 : (m.length : Int) < 1 := by omega
    have hv := hid (ptsB_no1 (m := m) (.inl h1))
    go_enter Tryz.func62, Tryz.ntmps62
    go_wp2_with fail
    go_ret3
    exact ⟨ExtX.refl _, 0, 0, by rw [hv.out]; rfl, fun h => by rw [hv.out] at h; simp at h⟩
  by_cases h2 : 64 < m.length
  · have d1 : ¬ (m.length : Int) < 1 := by omega
    have d2 : (64 : Int) < (m.length : Int) := by omega
    have hv := hid (ptsB_no1 (m := m) (.inr h2))
    go_enter Tryz.func62, Tryz.ntmps62
    go_wp2_with fail
    go_ret3
    exact ⟨ExtX.refl _, 0, 0, by rw [hv.out]; rfl, fun h => by rw [hv.out] at h; simp at h⟩
  have d1 : ¬ (m.length : Int) < 1 := by omega
  have d2 : ¬ (64 : Int) < (m.length : Int) := by omega
  have h0 : 0 < m.length := by omega
  obtain ⟨n, hn⟩ : ∃ n, m.length = n := ⟨_, rfl⟩
  have hn' := hid hn
  obtain ⟨a2, c2, hX2, hc2, hcl2, hq2⟩ := hsa.row 0 h0
  have k10 := hc2.out noY w (ExtX.refl _) rfl
  have hcol := colsL_pos h0
  rw [<- hcol] at k10
  have hno2 := hid (fun i hi h => ptsB_no2 (m := m) i hi h)
  have hno3 := hid (fun h => ptsB_no3 (m := m) h)
  have hyes : Hid ((∀ q, q < n -> ∀ hq : q < m.length, m[q].length = colsL m) -> 1 <= colsL m -> colsL m <= 3 -> ptsB m = true) := hid fun h3 h4 h5 => ptsB_true.2 ⟨by omega, by omega, h4, h5, fun i hi => h3 i (by omega) hi⟩
  obtain ⟨y, hy⟩ : ∃ y, colsL m = y := ⟨_, rfl⟩
  have hy' := hid hy
  rw [hy] at k10 hno3 hyes
  have hn64 : n <= 64 := by omega
  have hn1 : 1 <= n := by omega
  rw [hn] at d1 d2 hha |-
  clear hcol hc2 hq2 hcl2 h1 h2 h0 hn hy hca
  go_enter Tryz.func62, Tryz.ntmps62
  go_wp2_with (with_reducible refine up_ix1 slRats (by omega) (by assumption) ?_)
  go_loop [22] (fun cc => ∃ i : Nat, cc = .int .i64 i /\ i <= n /\ Hid (∀ q, q < i -> ∀ hq : q < m.length, m[q].length = colsL m)) (fun cc => n - (intOf cc).toNat)
  case atStart => exact ⟨0, rfl, Nat.zero_le _, hid fun q hq => by omega⟩
  case round =>
    obtain ⟨i, rfl, hi, hok⟩ := hrel
    by_cases hlt : i < n
    · have hil : i < m.length := by rw [hn'.out]; exact hlt
      obtain ⟨a1, c1, hX1, hc1, hcl1, hq1⟩ := hsa.row i hil
      have k00 := hc1.out noY w (ExtX.refl _) rfl
      have hn2 := hid (hno2.out i hil)
      obtain ⟨x, hx⟩ : ∃ x, m[i].length = x := ⟨_, rfl⟩
      have hst : Hid (x = y -> ∀ hq : i < m.length, m[i].length = colsL m) := hid fun h hq => by rw [hx, hy'.out]; exact h
      rw [hx, hy'.out] at hn2
      rw [hx] at k00
      clear hx hc1 hq1 hcl1
      by_cases hxy : x = y
      · have e1 : ((x : Int) != (y : Int)) = false := bneF (by omega)
        have hst2 := hid (hst.out hxy)
        clear hxy
        go_wp2_with (with_reducible refine up_ix1 slRats (by omega) (by assumption) ?_)
        go_round
        case rel => exact ⟨i + 1, by go_num, by omega, hid (upto_succ hok.out hst2.out)⟩
        case measure => simp [intOf]; omega
      · have e1 : ((x : Int) != (y : Int)) = true := bneT (by omega)
        have hv := hid (hn2.out hxy)
        clear hxy
        go_wp2_with (with_reducible refine up_ix1 slRats (by omega) (by assumption) ?_)
        go_ret3
        exact ⟨ExtX.refl _, 0, 0, by rw [hv.out]; rfl, fun h => by rw [hv.out] at h; simp at h⟩
    · have hin : i = n := by omega
      subst hin
      have hy2 := hid (hyes.out fun q h1 h2 => (hok.out q h1 h2).trans hy'.out)
      clear hlt k10
      by_cases h1 : 1 <= y
      · have e1 : (1 : Int) <= (y : Int) := by omega
        by_cases h3 : y <= 3
        · have e2 : (y : Int) <= 3 := by omega
          have hv := hid (hy2.out h1 h3)
          go_wp2_with fail
          go_ret3
          exact ⟨ExtX.refl _, i, y, by rw [hv.out]; rfl, fun _ => ⟨hn'.out.symm, hy'.out.symm⟩⟩
        · have e2 : ¬ (y : Int) <= 3 := by omega
          have hv := hid (hno3.out (.inr (by omega)))
          go_wp2_with fail
          go_ret3
          exact ⟨ExtX.refl _, i, y, by rw [hv.out]; rfl, fun _ => ⟨hn'.out.symm, hy'.out.symm⟩⟩
      · have e1 : ¬ (1 : Int) <= (y : Int) := by omega
        have hv := hid (hno3.out (.inl (by omega)))
        go_wp2_with fail
        go_ret3
        exact ⟨ExtX.refl _, i, y, by rw [hv.out]; rfl, fun _ => ⟨hn'.out.symm, hy'.out.symm⟩⟩
end Go.Proofs.YthipmbmjodhiiaaGreat
namespace Go.Proofs.YthipmbmjodhiiaaGreat
open Go.RowKit Go.Rep Go.Lim Go.Lin
set_option maxRecDepth 100000 in
theorem rdepth_any (X : Nat -> Bool) (w : World) (u v : Value) (p : Mat) (y : List Rat) (B : Nat) (hX : HX X w) (hu : MV (mk X w) u p) (hv : RV (mk X w) v y) (hp : p.length <= 1000) (hpB : BM B p) (hyB : BR B y) (hB : 1 <= B) (hBB : B <= 3000) :
    Calls Tryz.prog 29 #[u, v] w (NEOut w (depV p y) (okE (depOk p y))) := by
  have hfi := rshape_any QV.mono X w u p hu (by omega)
  have hv0 := hv
  obtain ⟨va, vca, rfl, hvca, hva⟩ := hv
  unfold ShOut at hfi
  cases hok : depOk p y
  · have hv1 := hid (depV_no hok)
    cases hpts : ptsB p
    · rw [hpts] at hfi
      clear hok hpts
      go_enter Tryz.func29, Tryz.ntmps29
      go_wp2_with fail
      refine hfi.mono ?_
      rintro e w1 ⟨hE1, a, b, rfl, hab⟩
      clear hfi
      go_wp2_with fail
      go_ret2
      exact ⟨hE1, by rw [hv1.out]; rfl⟩
    · have hyc : y.length ≠ colsL p := fun h => by
        unfold depOk at hok; rw [hpts, decide_eq_true h] at hok; simp at hok
      rw [hpts] at hfi
      obtain ⟨c, hc⟩ : ∃ c, colsL p = c := ⟨_, rfl⟩
      obtain ⟨yl, hyl⟩ : ∃ yl, y.length = yl := ⟨_, rfl⟩
      rw [hc] at hfi
      rw [hc, hyl] at hyc
      rw [hyl] at hvca |-
      clear hc hyl hok hpts
      go_enter Tryz.func29, Tryz.ntmps29
      go_wp2_with fail
      refine hfi.mono ?_
      rintro e w1 ⟨hE1, a, b, rfl, hab⟩
      obtain ⟨rfl, rfl⟩ := hab trivial
      have d1 : ((yl : Int) != (b : Int)) = true := bneT (by omega)
      clear hfi hyc
      go_wp2_with fail
      go_ret2
      exact ⟨hE1, by rw [hv1.out]; rfl⟩
  obtain ⟨f1, f2, f3, f4, f5, f6, f7⟩ := from_facts hok hpB hyB hB
  obtain ⟨hpts, hyc⟩ := depOk_parts hok
  rw [hpts] at hfi
  have hval := hid (fun k h => depV_yes (k := k) hok h)
  have hcen := hid (fun w' (h : Ext w w') => rfrom25 X w' u (.slice va y.length vca) p y (colsL p) (hX.ext h) (mkx MV.mono hu h) (mkx RV.mono hv0 h) f1 hyc (by omega) hp)
  obtain ⟨c, hc⟩ : ∃ c, colsL p = c := ⟨_, rfl⟩
  rw [hc] at f1 f4 f5 f6 f7 hval hcen hyc hfi
  obtain ⟨M, hM⟩ : ∃ M, fromM c p y = M := ⟨_, rfl⟩
  rw [hM] at f6 f7 hval hcen
  rw [hyc] at hcen |-
  have hbst := hid (fun w' um (hX' : HX X w') (hm : MV (mk X w') um M) => rleast_any p.length X w' um M c (2 * B + 1) hX' hm f6 f2 f4 f5 f7 (by omega) (by omega))
  have f7' := hid f7
  have hcc : ((c : Int) != (c : Int)) = false := bneF rfl
  clear hok f1 f6 f7 hM hc hv0 hva hpB hyB hu hyc hpts
  go_enter Tryz.func29, Tryz.ntmps29
  go_wp2_with fail
  refine hfi.mono ?_
  rintro e w1 ⟨hE1, a, b, rfl, hab⟩
  obtain ⟨rfl, rfl⟩ := hab trivial
  have hcn := hcen.out w1 hE1
  clear hfi
  go_wp2_with fail
  refine hcn.mono ?_
  rintro e w2 ⟨hE2, um, rfl, hm⟩
  have hE12 := hE1.trans hE2
  have hb := hbst.out w2 um (hX.ext hE12) (hm.mv fun r hr q hq => Nat.le_trans (f7'.out r hr q hq) (by omega))
  clear hcn
  go_wp2_with fail
  refine hb.mono ?_
  rintro e w3 ⟨hE3, k, rfl, _, hk⟩
  have hkv := hid (hval.out k hk)
  clear hb hk
  go_wp2_with fail
  go_ret2
  exact ⟨hE12.trans hE3, by rw [hkv.out]; rfl⟩
end Go.Proofs.YthipmbmjodhiiaaGreat
namespace Go.Proofs.YthipmbmjodhiiaaGreat
open Go.RowKit Go.Rep Go.Lim Go.Lin
set_option maxRecDepth 100000 in
theorem eclean (X : Nat -> Bool) (w : World) (u : Value) (x : Rat) (hX : HX X w) (hu : QV (mk X w) u x) : Calls Tryz.prog 132 #[u] w (ROut X w QC x) := by
  obtain ⟨s1, a1, n1, c1, d1, k1, e1, rfl⟩ := hu.shape
  obtain ⟨W, hW, hE, b0, b1, hz⟩ := boxes2 w #[.bool s1, .slice a1 n1 c1, .slice d1 k1 e1] #[.bool false, .slice none 0 0, .slice none 0 0] 34 34
  have hXW : HX (hidB X w.heap.size 2) W := hX.boxes hz
  have hu1 := QV.mono _ _ _ _ (le_boxes (nb := 2) hE) hu
  obtain ⟨b, hb⟩ : ∃ b, w.heap.size = b := ⟨_, rfl⟩
  have hbw : w.heap.size <= b := by omega
  rw [hb] at b0 b1 hz hXW hu1
  have k00 := b0.cell 0 rfl
  have k01 := b0.cell 1 rfl
  have k02 := b0.cell 2 rfl
  have h0 : QV (mk (hidB X b 2) W) (.agg #[.bool false, .slice none 0 0, .slice none 0 0]) 0 := (QC.zero _).qv (by decide +kernel)
  have hx0 : x + 0 = x := by grind
  clear hu
  go_enter Tryz.func132, Tryz.ntmps132
  go_wp2_with fail
  refine (qadd (hidB X b 2) W _ _ x 0 hXW hu1 h0).mono ?_
  rintro ee w5 ⟨hE5, u5, rfl, hq5⟩
  rw [hx0] at hq5
  obtain ⟨s5, a5, n5, c5, d5, k5, e5, rfl⟩ := hq5.shape
  have b1' := b1.ext0 hE5
  clear k00 k01 k02
  go_wp2_with ((with_reducible show wpList _ _ _ (⟨_, .store 34 _ _, _, _, _, _⟩ :: _) _ _); refine st_storeBox stRat rfl rfl b1' rfl rfl (one3 _ _ _ _ _ _ _) ?_; intro w7 r1 r2)
  have h7 := QC.mono _ _ _ _ le_unbox (QC.mono _ _ _ _ (le_store r2 (by omega) (by omega)) hq5)
  exact bodyPost_ret (results_box rfl rfl stRat r1 rfl) rfl ⟨ExtX.box (hE.trans hE5) r2 (by omega), _, rfl, h7⟩
set_option maxRecDepth 100000 in
set_option maxHeartbeats 800000 in
theorem elist (X : Nat -> Bool) (w : World) (u : Value) (l : List Rat) (hX : HX X w) (hu : RV (mk X w) u l) (hl : l.length <= 1000) : Calls Tryz.prog 96 #[u] w (ROut X w RC l) := by
  obtain ⟨ao, ca, rfl, hca, hsa⟩ := hu
  have hha := hsa.hd
  obtain ⟨n, hn⟩ : ∃ n, l.length = n := ⟨_, rfl⟩
  have hn' := hid hn
  rw [hn] at hl hca hha |-
  clear hn
  go_enter Tryz.func96, Tryz.ntmps96
  go_wp2_with fail
  go_loopw [3, 8] (fun o cc wr => ∃ (i : Nat) (oo : Option Addr) (co : Nat), cc = .int .i64 i /\ o = .slice oo i co /\ i <= n /\ OL QC 3 X w.heap.size 34 wr oo co (l.take i) /\ Ext w wr) (fun _ cc _ => n - (intOf cc).toNat)
  case atStart => exact ⟨0, none, 0, rfl, rfl, Nat.zero_le _, OL.nil _ _ _ _ _ _, ExtX.refl _⟩
  case round =>
    obtain ⟨i, oo, co, rfl, rfl, hi, hO, hE⟩ := hrel
    have hXr : HX X wr := hX.ext hE
    have hXu : HX (un X oo) wr := hO.unX hXr
    have hbase := hE.size
    by_cases hlt : i < n
    · have hil : i < l.length := by rw [hn'.out]; exact hlt
      have htk := hid (take_snoc l i hil)
      have hln := hid (len_take (l := l) (i := i) (Nat.le_of_lt hil))
      have hq2 : Sl QV 3 (mk (un X oo) wr) ao l := hsa.old QV.mono hE (fun j hj => hO.ob_lt hj)
      have bx := Bx.new wr #[.bool false, .slice none 0 0, .slice none 0 0] 34
      obtain ⟨v, hv⟩ : ∃ v, l[i] = v := ⟨_, rfl⟩
      rw [hv] at htk
      have hv' := hid hv
      clear hv
      go_wp2_with (first | (with_reducible refine up_ixn slRat (by omega) (by assumption) ?_) | ((with_reducible show wpList _ _ _ (⟨_, .load 34 _, _, _, _, _⟩ :: _) _ _); refine st_loadElem stRat i hq2 hil rfl (by simp) QV.agg ?_; intro u5 hu5; rw [hv'.out] at hu5; obtain ⟨s5, a5, n5, c5, d5, m5, e5, rfl⟩ := hu5.shape) | ((with_reducible show wpList _ _ _ (⟨_, .store 34 _ _, _, _, _, _⟩ :: _) _ _); refine st_storeBox stRat rfl rfl bx rfl rfl (one3 _ _ _ _ _ _ _) ?_; intro w5 r1 r2; have hE5 : Ext wr w5 := ExtX.box ((ExtX.refl wr).alloc _) r2 (Nat.le_refl _); have k10 := r1.cell 0 rfl; have k11 := r1.cell 1 rfl; have k12 := r1.cell 2 rfl; have hX5 := hXu.ext hE5; have hu6 := mkx QV.mono hu5 hE5))
      refine (eclean (un X oo) _ _ _ hX5 hu6).mono ?_
      rintro e w7 ⟨hE7, u7, rfl, hu7⟩
      obtain ⟨s7, a7, n7, c7, d7, m7, e7, rfl⟩ := hu7.shape
      have hE57 := hE5.trans hE7
      have hO7 := hO.ext0 QC.elem hE57
      have hb7 := (hE.trans hE57).size
      have hX7 : HX X w7 := hXr.ext hE57
      clear k10 k11 k12
      go_wp2_with (at_builtin; refine st_append1n (l := l.take i) slRat rfl QC.elem hb7 hX7 i hln.out rfl rfl hO7 (.agg #[.bool s7, .slice a7 n7 c7, .slice d7 m7 e7]) v rfl hu7 (by omega) (by omega) ?_; intro oo2 co2 w9 hO9 hE9 hor)
      have hE10 := (hE.trans hE57).own hO7 (Nat.le_refl _) hE9
      rw [htk.out] at hO9
      go_roundw
      case rel => exact ⟨i + 1, oo2, co2, by go_num, by go_num, by omega, hO9, hE10⟩
      case measure => simp [intOf]; omega
    · have hin : i = n := by omega
      rw [List.take_of_length_le (by rw [hn'.out]; omega)] at hO
      subst hin
      have hc := hO.lenCap
      have hs := hO.sl QC.elem
      go_wp2_with fail
      go_ret
      exact ⟨hE, _, rfl, oo, co, by rw [hn'.out]; rfl, hc, hs⟩
set_option maxRecDepth 100000 in
set_option maxHeartbeats 800000 in
theorem ematrix (X : Nat -> Bool) (w : World) (u : Value) (m : List (List Rat)) (hX : HX X w) (hu : MV (mk X w) u m) (hl : m.length <= 1000) (hr : ∀ r ∈ m, r.length <= 1000) : Calls Tryz.prog 63 #[u] w (ROut X w MC m) := by
  obtain ⟨ao, ca, rfl, hca, hsa⟩ := hu
  have hha := hsa.hd
  obtain ⟨n, hn⟩ : ∃ n, m.length = n := ⟨_, rfl⟩
  have hn' := hid hn
  have hr' := hid hr
  rw [hn] at hl hca hha |-
  clear hn hr
  go_enter Tryz.func63, Tryz.ntmps63
  go_wp2_with fail
  go_loopw [3, 8] (fun o cc wr => ∃ (i : Nat) (oo : Option Addr) (co : Nat), cc = .int .i64 i /\ o = .slice oo i co /\ i <= n /\ OL RC 1 X w.heap.size 27 wr oo co (m.take i) /\ Ext w wr) (fun _ cc _ => n - (intOf cc).toNat)
  case atStart => exact ⟨0, none, 0, rfl, rfl, Nat.zero_le _, OL.nil _ _ _ _ _ _, ExtX.refl _⟩
  case round =>
    obtain ⟨i, oo, co, rfl, rfl, hi, hO, hE⟩ := hrel
    have hXr : HX X wr := hX.ext hE
    have hXu : HX (un X oo) wr := hO.unX hXr
    have hbase := hE.size
    by_cases hlt : i < n
    · have hil : i < m.length := by rw [hn'.out]; exact hlt
      have htk := hid (take_snoc m i hil)
      have hln := hid (len_take (l := m) (i := i) (Nat.le_of_lt hil))
      have hq2 : Sl RV 1 (mk (un X oo) wr) ao m := hsa.old RV.mono hE (fun j hj => hO.ob_lt hj)
      obtain ⟨a1, c1, hX1, hc1, hcl1, hq1⟩ := hq2.row i hil
      have k00 := hc1.out noY wr (ExtX.refl _) rfl
      have hls := elist (un X oo) wr (.slice a1 m[i].length c1) m[i] hXu ⟨a1, c1, rfl, hcl1, hq1⟩ (hr'.out _ (List.getElem_mem _))
      obtain ⟨v, hv⟩ : ∃ v, m[i] = v := ⟨_, rfl⟩
      rw [hv] at htk hls k00
      obtain ⟨vl, hvl⟩ : ∃ vl, v.length = vl := ⟨_, rfl⟩
      have hvl' := hid hvl
      rw [hvl] at hls k00
      clear hc1 hcl1 hq1 hv hvl
      go_wp2_with (with_reducible refine up_ix1 slRats (by omega) (by assumption) ?_)
      refine hls.mono ?_
      rintro e w7 ⟨hE7, u7, rfl, ro, cr, rfl, hcr, hsr⟩
      have hRC : RC (mk (un X oo) w7) (.slice ro v.length cr) v := ⟨ro, cr, rfl, hcr, hsr⟩
      rw [hvl'.out] at hRC |-
      have hO7 := hO.ext0 RC.elem hE7
      have hb7 := (hE.trans hE7).size
      have hX7 : HX X w7 := hXr.ext hE7
      clear k00 hls
      go_wp2_with (at_builtin; refine st_append1n (l := m.take i) slRats rfl RC.elem hb7 hX7 i hln.out rfl rfl hO7 (.slice ro vl cr) v rfl hRC (by omega) (by omega) ?_; intro oo2 co2 w9 hO9 hE9 hor)
      have hE10 := (hE.trans hE7).own hO7 (Nat.le_refl _) hE9
      rw [htk.out] at hO9
      go_roundw
      case rel => exact ⟨i + 1, oo2, co2, by go_num, by go_num, by omega, hO9, hE10⟩
      case measure => simp [intOf]; omega
    · have hin : i = n := by omega
      rw [List.take_of_length_le (by rw [hn'.out]; omega)] at hO
      subst hin
      have hc := hO.lenCap
      have hs := hO.sl RC.elem
      go_wp2_with fail
      go_ret
      exact ⟨hE, _, rfl, oo, co, by rw [hn'.out]; rfl, hc, hs⟩
def WitOut (X : Nat -> Bool) (w : World) (p : Mat) (y : List Rat) (e : Ending) (w' : World) : Prop := Ext w w' /\ ∃ (v : Value) (us : List (List Rat)), e = .returned (.tuple #[v, .int .i64 (okE (depOk p y))]) /\ MV (mk X w') v us /\ BM uB us /\ (depOk p y = false -> us = []) /\
  (depOk p y = true -> (∀ r ∈ us, r.length = colsL p) /\ Wit (colsL p) (vecs (fromM (colsL p) p y)) (depV p y) (vecs us) /\ 1 <= us.length /\ us.length <= colsL p)
set_option maxRecDepth 100000 in
theorem hwit_any (X : Nat -> Bool) (w : World) (u v : Value) (p : Mat) (y : List Rat) (B : Nat) (hX : HX X w) (hu : MV (mk X w) u p) (hv : RV (mk X w) v y) (hp : p.length <= 1000) (hpB : BM B p) (hyB : BR B y) (hB : 1 <= B) (hBB : B <= 3000) :
    Calls Tryz.prog 28 #[u, v] w (WitOut X w p y) := by
  have hfit := fun xo xl xc => hfits_any X w u p xo xl xc hu (by omega)
  have hv0 := hv
  obtain ⟨va, vca, rfl, hvca, hva⟩ := hv
  have hfi : Calls Tryz.prog 57 #[u, .slice va y.length vca] w (fun e w' => w' = w /\ e = .returned (.bool (depOk p y))) := hfit va y.length vca
  clear hfit
  unfold WitOut
  cases hok : depOk p y
  · rw [hok] at hfi
    clear hok
    go_enter Tryz.func28, Tryz.ntmps28
    go_wp2_with fail
    refine hfi.mono ?_
    rintro e w1 ⟨rfl, rfl⟩
    go_wp2_with fail
    go_ret2
    exact ⟨ExtX.refl _, .slice none 0 0, [], rfl, SlV.zero _ _ _, fun r hr => by simp at hr, fun _ => rfl, fun h => by cases h⟩
  rw [hok] at hfi
  obtain ⟨f1, f2, f3, f4, f5, f6, f7⟩ := from_facts hok hpB hyB hB
  obtain ⟨_, hyc⟩ := depOk_parts hok
  have hval := hid (fun k h => depV_yes (k := k) hok h)
  have hcen := hcentred X w u (.slice va y.length vca) p y (colsL p) hX hu hv0 f1 hyc (by omega) hp
  obtain ⟨c, hc⟩ : ∃ c, colsL p = c := ⟨_, rfl⟩
  rw [hc] at f1 f4 f5 f6 f7 hval hcen hyc |-
  obtain ⟨M, hM⟩ : ∃ M, fromM c p y = M := ⟨_, rfl⟩
  rw [hM] at f6 f7 hval hcen |-
  rw [hyc] at hfi hcen |-
  have hbst := hid (fun w' um (hX' : HX X w') (hm : MV (mk X w') um M) => best_any p.length X w' um M c (2 * B + 1) hX' hm f6 f2 f4 f5 f7 (by omega) (by omega))
  have f7' := hid f7
  have hsht := hid (fun k us (h : Wit c (vecs M) k (vecs us)) => Wit.short f6 (by omega) h)
  obtain ⟨V, hV⟩ : ∃ V, depV p y = V := ⟨_, rfl⟩
  rw [hV] at hval |-
  clear hok f1 f6 f7 hM hc hv0 hva hpB hyB hu hyc hV
  go_enter Tryz.func28, Tryz.ntmps28
  go_wp2_with fail
  refine hfi.mono ?_
  rintro e w1 ⟨rfl, rfl⟩
  go_wp2_with fail
  refine hcen.mono ?_
  rintro e w2 ⟨hE2, um, rfl, hm⟩
  have hb := hbst.out w2 um (hX.ext hE2) (hm.mv fun r hr q hq => Nat.le_trans (f7'.out r hr q hq) (by omega))
  go_wp2_with fail
  refine hb.mono ?_
  rintro e w3 ⟨hE3, k, dv, us, rfl, hdv, huB, hul, hk, hw⟩
  have hkv := hval.out k hk
  rw [<- hkv] at hw
  obtain ⟨s1, s2⟩ := hsht.out _ us hw
  have hw' := hid hw
  have huB' := hid huB
  have hul' := hid hul
  have hX3 := hX.ext (hE2.trans hE3)
  have hmx := ematrix X w3 dv us hX3 hdv (by omega) (fun r hr => by rw [hul r hr]; omega)
  clear hb hk hkv hw huB hul hdv
  go_wp2_with fail
  refine hmx.mono ?_
  rintro e w4 ⟨hE4, u4, rfl, hu4⟩
  have hmv := hu4.mv (fun r hr q hq => Nat.le_trans (huB'.out r hr q hq) (by decide))
  clear hmx
  go_wp2_with fail
  go_ret2
  have hend := (⟨fun h => absurd h (by decide), fun _ => ⟨hul'.out, hw'.out, s1, s2⟩⟩ : (true = false -> us = []) /\ (True -> (∀ r ∈ us, r.length = c) /\ Wit c (vecs M) V (vecs us) /\ 1 <= us.length /\ us.length <= c))
  exact ⟨hE2.trans (hE3.trans hE4), u4, us, rfl, hmv, huB'.out, hend⟩
end Go.Proofs.YthipmbmjodhiiaaGreat
namespace Go.Proofs.YthipmbmjodhiiaaGreat
open Go.RowKit Go.Rep Go.Lim Go.Lin
set_option maxRecDepth 100000 in
set_option maxHeartbeats 1600000 in
theorem rcount_any (X : Nat -> Bool) (w : World) (u v x : Value) (p : Mat) (y : List Rat) (us : Mat) (B C : Nat) (hX : HX X w) (hu : MV (mk X w) u p) (hv : RV (mk X w) v y) (hx : MV (mk X w) x us) (hp : p.length <= 1000) (hl : us.length <= 1000) (hpB : BM B p) (hyB : BR B y) (hC : BM C us) (hB : 1 <= B) (hC1 : 1 <= C) (hBC : 10 * B + 4 * C <= 68719476000) :
    Calls Tryz.prog 30 #[u, v, x] w (NEOut w (cntV p y us) (okE (cntOk p y us))) := by
  have hfi := rshape_any QV.mono X w u p hu (by omega)
  have hv0 := hv
  obtain ⟨va, vca, rfl, hvca, hva⟩ := hv
  obtain ⟨xa, xca, rfl, hxca, hxa⟩ := hx
  have hhx := hxa.hd
  cases hpts : ptsB p
  · have hz := cntOk_no1 (us := us) (y := y) (p := p) (by rw [hpts]; rfl)
    have hv1 : Hid (cntV p y us = 0) := hid (by unfold cntV; rw [hz]; rfl)
    have hv2 : Hid (okE (cntOk p y us) = 6) := hid (by rw [hz]; rfl)
    unfold ShOut at hfi
    rw [hpts] at hfi
    clear hz hpts
    go_enter Tryz.func30, Tryz.ntmps30
    go_wp2_with fail
    refine hfi.mono ?_
    rintro e w1 ⟨hE1, a, b, rfl, hab⟩
    clear hfi
    go_wp2_with fail
    go_ret2
    exact ⟨hE1, by rw [hv1.out, hv2.out]; rfl⟩
  by_cases hyc : y.length = colsL p
  rotate_left 1
  · have hz := cntOk_no1 (us := us) (y := y) (p := p) (by rw [hpts, decide_eq_false hyc]; rfl)
    have hv1 : Hid (cntV p y us = 0) := hid (by unfold cntV; rw [hz]; rfl)
    have hv2 : Hid (okE (cntOk p y us) = 6) := hid (by rw [hz]; rfl)
    unfold ShOut at hfi
    rw [hpts] at hfi
    clear hz hpts
    obtain ⟨c, hc⟩ : ∃ c, colsL p = c := ⟨_, rfl⟩
    obtain ⟨yl, hyl⟩ : ∃ yl, y.length = yl := ⟨_, rfl⟩
    rw [hc] at hfi
    rw [hc, hyl] at hyc
    rw [hyl] at hvca |-
    clear hc hyl
    go_enter Tryz.func30, Tryz.ntmps30
    go_wp2_with fail
    refine hfi.mono ?_
    rintro e w1 ⟨hE1, a, b, rfl, hab⟩
    obtain ⟨rfl, rfl⟩ := hab trivial
    have d1 : ((yl : Int) != (b : Int)) = true := bneT (by omega)
    clear hfi hyc
    go_wp2_with fail
    go_ret2
    exact ⟨hE1, by rw [hv1.out, hv2.out]; rfl⟩
  have hok1 : (ptsB p && decide (y.length = colsL p)) = true := by rw [hpts, decide_eq_true hyc]; rfl
  have hrow := ptsB_row hpts
  obtain ⟨hp1, hp64, hc1, hc3, _⟩ := ptsB_true.1 hpts
  obtain ⟨c, hc⟩ : ∃ c, colsL p = c := ⟨_, rfl⟩
  rw [hc] at hrow hyc hc1 hc3
  obtain ⟨M, hM⟩ : ∃ M, fromM c p y = M := ⟨_, rfl⟩
  have hMs : Shp p.length c M := by rw [<- hM]; exact fromM_shp c p y
  have hcen := hid (fun w' (h : Ext w w') => rfrom25 X w' u (.slice va y.length vca) p y c (hX.ext h) (mkx MV.mono hu h) (mkx RV.mono hv0 h) hrow hyc (by omega) hp)
  have hMB : BM (2 * B + 1) M := by
    rw [<- hM]
    exact fromM_bm (fun r hr q hq => Nat.le_trans (hpB r hr q hq) (by omega)) (fun q hq => Nat.le_trans (hyB q hq) (by omega)) (by omega)
  have hok := hid (fun h => cntOk_yes (us := us) hok1 h)
  have hno := hid (fun i hi h => cntOk_no2 (p := p) (y := y) (us := us) i hi h)
  have hval : Hid (cntOk p y us = true -> cntV p y us = lexc c (vecs us) (vecs M)) := hid fun h => by unfold cntV; rw [h, hc, hM]; rfl
  have hbad : Hid (cntOk p y us = false -> cntV p y us = 0) := hid fun h => by unfold cntV; rw [h]; rfl
  unfold ShOut at hfi
  rw [hpts, hc] at hfi
  rw [hM] at hcen
  rw [hyc] at hcen hvca hno |-
  obtain ⟨K, hK⟩ : ∃ K, cntV p y us = K := ⟨_, rfl⟩
  obtain ⟨O, hO⟩ : ∃ O, cntOk p y us = O := ⟨_, rfl⟩
  have hyc' := hid hyc
  rw [hK, hO] at hval
  rw [hK, hO] at hbad
  rw [hO] at hok hno
  rw [hK, hO]
  obtain ⟨n, hn⟩ : ∃ n, us.length = n := ⟨_, rfl⟩
  have hn' := hid hn
  have hC' := hid hC
  have hMs' := hid hMs
  have hMB' := hid hMB
  rw [hn] at hl hxca hhx |-
  have hMl : M.length <= 64 := by rw [hMs.1]; exact hp64
  clear hK hO hM hpts hrow hyc hC hMs hMB hn hv0 hok1 hpB hyB hu hc
  go_enter Tryz.func30, Tryz.ntmps30
  go_wp2_with fail
  refine hfi.mono ?_
  rintro e w1 ⟨hE1, a, b, rfl, hab⟩
  obtain ⟨rfl, rfl⟩ := hab trivial
  clear hfi
  have hX1 := hX.ext hE1
  have hxa1 := hxa.mono RV.mono (mk_ext hE1)
  go_wp2_with fail
  go_loop [35] (fun cc => ∃ i : Nat, cc = .int .i64 i /\ i <= n /\ Hid (∀ q, q < i -> ∀ hq : q < us.length, us[q].length = b)) (fun cc => n - (intOf cc).toNat)
  case atStart => exact ⟨0, rfl, Nat.zero_le _, hid fun q hq => by omega⟩
  case round =>
    obtain ⟨i, rfl, hi, hrl⟩ := hrel
    by_cases hlt : i < n
    · have hil : i < us.length := by rw [hn'.out]; exact hlt
      obtain ⟨a1, c1, hX1, hcc1, hcl1, hq1⟩ := hxa1.row i hil
      have k00 := hcc1.out noY w1 (ExtX.refl _) rfl
      obtain ⟨r, hr⟩ : ∃ r, us[i].length = r := ⟨_, rfl⟩
      have hno1 := hid (hno.out i hil)
      have hnx : Hid (r = b -> ∀ hq : i < us.length, us[i].length = b) := hid fun h hq => by rw [hr]; exact h
      rw [hr] at k00 hno1
      clear hr hcc1 hq1 hcl1
      by_cases hrc : r = b
      · have d1 : ((r : Int) != (b : Int)) = false := bneF (by omega)
        have hn2 := hid (hnx.out hrc)
        clear hrc
        go_wp2_with (with_reducible refine up_ix1 slRats (by omega) (by assumption) ?_)
        go_round
        case rel => exact ⟨i + 1, by go_num, by omega, hid (upto_succ hrl.out hn2.out)⟩
        case measure => simp [intOf]; omega
      · have d1 : ((r : Int) != (b : Int)) = true := bneT (by omega)
        have hO : Hid (O = false) := hid (hno1.out hrc)
        have hK : Hid (K = 0) := hid (hbad.out hO.out)
        clear hrc
        go_wp2_with (with_reducible refine up_ix1 slRats (by omega) (by assumption) ?_)
        go_ret2
        exact ⟨hE1, by rw [hK.out, hO.out]; rfl⟩
    · have hin : i = n := by omega
      subst hin
      have hO : Hid (O = true) := hid (hok.out fun q hq => by rw [hyc'.out]; exact hrl.out q (by rw [hn'.out] at hq; exact hq) hq)
      have hKv : Hid (K = lexc b (vecs us) (vecs M)) := hid (hval.out hO.out)
      have hul : Hid (∀ q (hq : q < us.length), us[q].length = b) := hid fun q hq => hrl.out q (by rw [hn'.out] at hq; exact hq) hq
      clear hlt
      go_wp2_with fail
      refine (hcen.out _ hE1).mono ?_
      rintro e w2 ⟨hE2, _, rfl, ma, mca, rfl, hmca, hma⟩
      have hX2 := hX1.ext hE2
      have hhm := hma.hd
      have hxa2 := hxa1.mono RV.mono (mk_ext hE2)
      obtain ⟨m, hm⟩ : ∃ m, M.length = m := ⟨_, rfl⟩
      have hm' := hid hm
      rw [hm] at hMl hmca hhm |-
      clear hm hcen hval hbad hok hno hrl
      obtain ⟨wo, hwo⟩ : ∃ wo, wo = w2 := ⟨_, rfl⟩
      subst hwo
      go_wp2_with fail
      go_loopw [13, 48] (fun nn cc wr => ∃ j : Nat, cc = .int .i64 j /\ j <= m /\ nn = .int .i64 (lexN b (vecs us) (vecs M) j : Int) /\ Ext wo wr) (fun _ cc _ => m - (intOf cc).toNat)
      case atStart => exact ⟨0, rfl, Nat.zero_le _, by rw [lexN_zero]; rfl, ExtX.refl _⟩
      case round =>
        obtain ⟨j, rfl, hj, rfl, hEj⟩ := hrel
        by_cases hlj : j < m
        · have hjM : j < M.length := by rw [hm'.out]; exact hlj
          have hsr := hma.mono RC.mono (mk_ext hEj)
          obtain ⟨a1, c1, hX1, hcc1, hcl1, hq1⟩ := hsr.row j hjM
          have k00 := hcc1.out noY wr (ExtX.refl _) rfl
          have hzl := hid (hMs'.out.2 M[j] (List.getElem_mem _))
          have hzB := hid (hMB'.out M[j] (List.getElem_mem _))
          have hle := lexN_le b (vecs us) (vecs M) j
          have hsu : Hid (∀ t : Bool, lexOk b (vecs us) (vec M[j]) = t -> lexN b (vecs us) (vecs M) (j + 1) = lexN b (vecs us) (vecs M) j + (if t then 1 else 0)) := hid fun t hb => by
            have h1 : j < (vecs M).length := by simpa [vecs] using hjM
            rw [lexN_succ h1]
            have h2 : (vecs M)[j] = vec M[j] := by simp [vecs]
            rw [h2, hb]
          obtain ⟨z, hz⟩ : ∃ z, M[j] = z := ⟨_, rfl⟩
          obtain ⟨L, hL⟩ : ∃ L, lexN b (vecs us) (vecs M) j = L := ⟨_, rfl⟩
          have hL' := hid hL
          rw [hz] at k00 hzl hzB hsu hq1 hcl1
          rw [hL] at hsu hle |-
          have hz0 : RV (mk X wr) (.slice a1 b c1) z := by
            have := RC.rv (u := .slice a1 b c1) ⟨a1, c1, by rw [hzl.out], hcl1, hq1⟩ (fun q hq => Nat.le_trans (hzB.out q hq) (by omega))
            exact this
          rw [hzl.out] at k00 hcl1
          clear hcc1 hz hL hq1
          go_wp2_with (with_reducible refine up_ix1 slRats (by omega) (by assumption) ?_)
          obtain ⟨wi, hwi⟩ : ∃ wi, wi = wr := ⟨_, rfl⟩
          subst hwi
          go_loopw [16, 54] (fun nn cc wx => ∃ k : Nat, cc = .int .i64 k /\ k <= i /\ Hid ((nn = .int .i64 0 /\ zeroTo b (vecs us) (vec z) k) \/ (nn = .int .i64 1 /\ lexOk b (vecs us) (vec z) = true) \/ (nn = .int .i64 (-1) /\ lexOk b (vecs us) (vec z) = false)) /\ Ext wi wx) (fun _ cc _ => i - (intOf cc).toNat)
          case atStart => exact ⟨0, rfl, Nat.zero_le _, hid (.inl ⟨rfl, fun q hq => by omega⟩), ExtX.refl _⟩
          case round =>
            obtain ⟨k, rfl, hk, hzt, hEk⟩ := hrel
            clear k00
            have hEx := hEj.trans hEk
            have hXx := hX2.ext hEx
            have hzx := mkx RV.mono hz0 hEk
            by_cases hlk : k < i
            · have hku : k < us.length := by rw [hn'.out]; exact hlk
              have hsu2 := hxa2.mono RV.mono (mk_ext hEx)
              obtain ⟨a3, c3, hX3, hcc3, hcl3, hq3⟩ := hsu2.row k hku
              have k00 := hcc3.out noY wr (ExtX.refl _) rfl
              have hul2 := hid (hul.out k hku)
              rw [hul2.out] at k00
              rcases hzt.out with ⟨rfl, hz0'⟩ | ⟨rfl, hz1⟩ | ⟨rfl, hz1⟩
              · have hkv : k < (vecs us).length := by simpa [vecs] using hku
                have hgv : (vecs us)[k] = vec us[k] := by simp [vecs]
                have hpos := hid (fun h => lexOk_pos (c := b) (v := vec z) hkv hz0' h)
                have hneg := hid (fun h => lexOk_neg (c := b) (v := vec z) hkv hz0' h)
                have hzer : Hid (dot b (vec us[k]) (vec z) = 0 -> zeroTo b (vecs us) (vec z) (k + 1)) := hid fun h => zeroTo_succ hz0' fun hi => by rw [hgv]; exact h
                rw [hgv] at hpos hneg
                have hdv := hid (dot_vec (u := us[k]) (z := z) hul2.out)
                have hCk := hC'.out us[k] (List.getElem_mem _)
                have hdb := dot_bounds2 (l := us[k]) (m := z) hCk hzB.out hC1 (by omega) (by
                  rw [hul2.out]
                  have : b * (C + (2 * B + 1) + 1) <= 3 * (C + (2 * B + 1) + 1) := Nat.mul_le_mul_right _ hc3
                  omega)
                have hdot := rdot23_any X wr (.slice a3 us[k].length c3) (.slice a1 b c1) us[k] z hXx ⟨a3, c3, rfl, hcl3, hq3⟩ hzx (by rw [hul2.out]; omega) (by rw [hzl.out, hul2.out]) hdb.1 hdb.2
                have hdq : Hid (hq (dotL us[k] z) <= 68719476736) := hid (hdb.1 _ (Nat.le_refl _))
                rw [<- hdv.out] at hpos hneg hzer
                rw [hul2.out] at hdot
                obtain ⟨D, hD⟩ : ∃ D, dotL us[k] z = D := ⟨_, rfl⟩
                rw [hD] at hpos hneg hzer hdot hdq
                have hnext : Hid (∃ g : Int, D.num.sign = g /\ ((Value.int .i64 g = .int .i64 0 /\ zeroTo b (vecs us) (vec z) (k + 1)) \/ (Value.int .i64 g = .int .i64 1 /\ lexOk b (vecs us) (vec z) = true) \/ (Value.int .i64 g = .int .i64 (-1) /\ lexOk b (vecs us) (vec z) = false))) := hid (by
                  rcases sign_cases D with ⟨hs, hsg⟩ | ⟨hs, hsg⟩ | ⟨hs, hsg⟩
                  · exact ⟨_, hsg, .inr (.inl ⟨rfl, hpos.out hs⟩)⟩
                  · exact ⟨_, hsg, .inl ⟨rfl, hzer.out hs⟩⟩
                  · exact ⟨_, hsg, .inr (.inr ⟨rfl, hneg.out hs⟩)⟩)
                clear hcc3 hq3 hcl3 hgv hkv hdb hCk hD hpos hneg hzer hz0' hzt
                go_wp2_with (with_reducible refine up_ix1 slRats (by omega) (by assumption) ?_)
                refine hdot.mono ?_
                rintro e w5 ⟨hE5, u5, rfl, hu5⟩
                go_wp2_with fail
                refine (rqsign X w5 u5 D (hXx.ext hE5) (hu5.qv hdq.out)).mono ?_
                rintro e w6 ⟨hE6, rfl⟩
                obtain ⟨g, hg, hgo⟩ := hnext.out
                have hgo' := hid hgo
                rw [hg]
                have hE9 := hEk.trans (hE5.trans hE6)
                clear k00 hg hgo hnext
                go_wp2_with fail
                go_roundw
                case rel => exact ⟨k + 1, by go_num, by omega, hgo', hE9⟩
                case measure => simp [intOf]; omega
              · clear hcc3 hq3 hcl3 hzt
                have hz1' := hid hz1
                clear hz1
                go_wp2_with (with_reducible refine up_ix1 slRats (by omega) (by assumption) ?_)
                go_roundw
                case rel => exact ⟨k + 1, by go_num, by omega, hid (.inr (.inl ⟨rfl, hz1'.out⟩)), hEk⟩
                case measure => simp [intOf]; omega
              · clear hcc3 hq3 hcl3 hzt
                have hz1' := hid hz1
                clear hz1
                go_wp2_with (with_reducible refine up_ix1 slRats (by omega) (by assumption) ?_)
                go_roundw
                case rel => exact ⟨k + 1, by go_num, by omega, hid (.inr (.inr ⟨rfl, hz1'.out⟩)), hEk⟩
                case measure => simp [intOf]; omega
            · have hki : k = i := by omega
              have hall : Hid (zeroTo b (vecs us) (vec z) k -> lexOk b (vecs us) (vec z) = true) := hid fun h => lexOk_all fun q hq hl => h q (by
                have : (vecs us).length = us.length := by simp [vecs]
                have := hn'.out
                omega) hl
              rcases hzt.out with ⟨rfl, hz0'⟩ | ⟨rfl, hz1⟩ | ⟨rfl, hz1⟩
              · have hnx := hid (hsu.out true (hall.out hz0'))
                have hnx2 : Hid (Value.int .i64 ((L + 1 : Nat) : Int) = .int .i64 (lexN b (vecs us) (vecs M) (j + 1) : Int)) := hid (by rw [hnx.out]; rfl)
                clear hzt hz0'
                go_wp2_with fail
                go_roundw
                case rel => exact ⟨j + 1, by go_num, by omega, by rw [<- hnx2.out]; go_num, hEx⟩
                case measure => simp [intOf]; omega
              · have hnx := hid (hsu.out true hz1)
                have hnx2 : Hid (Value.int .i64 ((L + 1 : Nat) : Int) = .int .i64 (lexN b (vecs us) (vecs M) (j + 1) : Int)) := hid (by rw [hnx.out]; rfl)
                clear hzt hz1
                go_wp2_with fail
                go_roundw
                case rel => exact ⟨j + 1, by go_num, by omega, by rw [<- hnx2.out]; go_num, hEx⟩
                case measure => simp [intOf]; omega
              · have hnx := hid (hsu.out false hz1)
                have hnx2 : Hid (Value.int .i64 (L : Int) = .int .i64 (lexN b (vecs us) (vecs M) (j + 1) : Int)) := hid (by rw [hnx.out]; rfl)
                clear hzt hz1
                go_wp2_with fail
                go_roundw
                case rel => exact ⟨j + 1, by go_num, by omega, hnx2.out, hEx⟩
                case measure => simp [intOf]; omega
        · have hjm : j = m := by omega
          have hfull : Hid (lexN b (vecs us) (vecs M) j = K) := hid (by
            rw [hKv.out, lexN_full (by have := hm'.out; simp [vecs]; omega)])
          go_wp2_with fail
          go_ret2
          exact ⟨hE1.trans (hE2.trans hEj), by rw [hfull.out, hO.out]; rfl⟩
end Go.Proofs.YthipmbmjodhiiaaGreat
namespace Go.Lin
open Go.Lim Go.Rep Go.Proofs.YthipmbmjodhiiaaGreat
theorem pts_of {p : Mat} {d : Nat} (h1 : 1 <= p.length) (h2 : p.length <= 64) (h3 : 1 <= d) (h4 : d <= 3) (h : ∀ r ∈ p, r.length = d) : ptsB p = true /\ colsL p = d := by
  have hc : colsL p = d := by
    unfold colsL
    rw [List.getD_eq_getElem?_getD, List.getElem?_eq_getElem (by omega)]
    exact h _ (List.getElem_mem _)
  exact ⟨ptsB_true.2 ⟨h1, h2, by omega, by omega, fun i hi => by rw [hc]; exact h _ (List.getElem_mem _)⟩, hc⟩
theorem zeroB_succ {r : List Rat} {j : Nat} (h : j < r.length) : zeroB (r.take (j + 1)) = (zeroB (r.take j) && decide (r[j] = 0)) := by
  unfold zeroB
  rw [<- List.take_append_getElem h, List.all_append]
  simp
theorem cnt_okz {p us : Mat} {y : List Rat} (h : depOk p y = true) (hl : ∀ r ∈ us, r.length = colsL p) : cntOk p y us = true := by
  unfold depOk at h
  unfold cntOk
  rw [<- Bool.and_assoc, h]
  rw [Bool.and_eq_true, decide_eq_true_eq] at h
  rw [decide_eq_true (fun i (hi : i < us.length) => by rw [hl _ (List.getElem_mem _), h.2])]
  rfl
end Go.Lin
namespace Go.Proofs.YthipmbmjodhiiaaGreat
open Go.RowKit Go.Rep Go.Lim Go.Lin
theorem tape_all {tb : Nat} {w w1 w2 : World} (h : w.heap.size = tb) (hE : Ext w w1) (h2 : ExtX (tbm tb) w1 w2) : Ext w w2 := hE.then_ h2 fun i hi _ => tbm_ne (by omega)
theorem noX_le (X : Nat -> Bool) (w : World) : Le (mk X w) (mk noY w) := mk_sub fun k _ hk => by simp [noY] at hk
end Go.Proofs.YthipmbmjodhiiaaGreat
namespace Go.Lin
open Go.Lim Go.Rep Go.Proofs.YthipmbmjodhiiaaGreat
theorem wit_law {p us : Mat} {y : List Rat} (h : depOk p y = true) (hl : ∀ r ∈ us, r.length = colsL p) (hw : Wit (colsL p) (vecs (fromM (colsL p) p y)) (depV p y) (vecs us)) :
    cntOk p y us = true /\ cntV p y us = depV p y /\ ∀ (h0 : 0 < us.length), zeroB us[0] = false := by
  have hc := cnt_okz h (us := us) hl
  refine ⟨hc, ?_, fun h0 => ?_⟩
  · unfold cntV
    rw [hc, if_pos rfl]
    exact hw.cnt
  · obtain ⟨u, t, he, hz⟩ := hw.head
    have h1 : vec us[0] = u := by
      have : (vecs us)[0]? = some u := by rw [he]; rfl
      unfold vecs at this
      rw [List.getElem?_map, List.getElem?_eq_getElem h0] at this
      simpa using this
    rw [<- h1] at hz
    exact (nz_vec (hl _ (List.getElem_mem _))).1 hz
end Go.Lin
namespace Go.Proofs.YthipmbmjodhiiaaGreat
open Go.RowKit Go.Rep Go.Lim
end Go.Proofs.YthipmbmjodhiiaaGreat
namespace Go.Proofs.YthipmbmjodhiiaaGreat
open Go.RowKit Go.Rep Go.Lim
set_option maxRecDepth 100000 in
theorem rqsame (X : Nat -> Bool) (w : World) (u v : Value) (x y : Rat) (hu : QC (mk X w) u x) (hv : QC (mk X w) v y) (hx : hq x <= 68719476736) : Calls Tryz.prog 67 #[u, v] w (BOut w (decide (x = y))) := by
  replace hx := hid hx
  obtain ⟨s1, a1, n1, c1, d1, k1, e1, rfl⟩ := hu.shape
  obtain ⟨s2, a2, n2, c2, d2, k2, e2, rfl⟩ := hv.shape
  obtain ⟨W, hW, hE, b0, b1, hz⟩ := boxes2 w #[.bool s1, .slice a1 n1 c1, .slice d1 k1 e1] #[.bool s2, .slice a2 n2 c2, .slice d2 k2 e2] 34 34
  have hu1 := mkx QC.mono hu hE
  have hv1 := mkx QC.mono hv hE
  obtain ⟨b, hb⟩ : ∃ b, w.heap.size = b := ⟨_, rfl⟩
  rw [hb] at b0 b1 hz
  have k00 := b0.cell 0 rfl
  have k01 := b0.cell 1 rfl
  have k02 := b0.cell 2 rfl
  have k10 := b1.cell 0 rfl
  have k11 := b1.cell 1 rfl
  have k12 := b1.cell 2 rfl
  clear hu hv
  obtain ⟨hxz, _, hxd⟩ := hu1.num
  obtain ⟨hyz, _, hyd⟩ := hv1.num
  have hl1 := hid (Nat.le_trans (hq_num x) (Nat.le_trans hx.out (by decide : (68719476736 : Nat) <= 1099511627776)))
  have hl2 := hid (Nat.le_trans (hq_dn x) (Nat.le_trans hx.out (by decide : (68719476736 : Nat) <= 1099511627776)))
  by_cases h1 : x.num = y.num
  · have hr : Hid (decide (dn x = dn y) = decide (x = y)) := hid (by
      rw [Bool.eq_iff_iff, decide_eq_true_eq, decide_eq_true_eq]
      constructor
      · intro h
        refine Rat.ext h1 ?_
        have := dn_zero x; have := dn_zero y
        unfold dn at h
        have := x.den_nz; have := y.den_nz
        split at h <;> split at h <;> omega
      · rintro rfl; rfl)
    have hd : Hid (decide (x.num = y.num) = true) := hid (decide_eq_true h1)
    clear h1
    go_enter Tryz.func67, Tryz.ntmps67
    go_wp2_with fail
    refine (risame X W _ _ _ _ hxz hyz hl1.out).mono ?_
    rintro e w5 ⟨hE5, rfl⟩
    rw [hd.out]
    have j02 := (b0.ext0 hE5).cell 2 rfl
    have j12 := (b1.ext0 hE5).cell 2 rfl
    clear k00 k01 k02 k10 k11 k12
    go_wp2_with fail
    refine (rnsame X w5 _ _ _ _ (mkx NC.mono hxd hE5) (mkx NC.mono hyd hE5) hl2.out).mono ?_
    rintro e w6 ⟨rfl, m, rfl⟩
    go_wp2_with fail
    go_ret
    exact ⟨(hE.trans hE5).drewN m, ret_bool hr.out⟩
  · have hr : Hid (false = decide (x = y)) := hid (decide_eq_false (by rintro rfl; exact h1 rfl)).symm
    have hd : Hid (decide (x.num = y.num) = false) := hid (decide_eq_false h1)
    clear h1
    go_enter Tryz.func67, Tryz.ntmps67
    go_wp2_with fail
    refine (risame X W _ _ _ _ hxz hyz hl1.out).mono ?_
    rintro e w5 ⟨hE5, rfl⟩
    rw [hd.out]
    clear k00 k01 k02 k10 k11 k12
    go_wp2_with fail
    go_ret
    exact ⟨hE.trans hE5, ret_bool hr.out⟩
end Go.Proofs.YthipmbmjodhiiaaGreat
namespace Go.Proofs.YthipmbmjodhiiaaGreat
open Go.RowKit Go.Rep Go.Lim
theorem ratlist_eq {a b : List Rat} (hl : a.length = b.length) (h : ∀ p, p < a.length -> ∀ (hp : p < a.length) (hq : p < b.length), a[p] = b[p]) : a = b := List.ext_getElem hl fun i h1 h2 => h i h1 h1 h2
set_option maxRecDepth 100000 in
theorem rqsamelist (X : Nat -> Bool) (w : World) (u v : Value) (a b : List Rat) (hu : RC (mk X w) u a) (hv : RC (mk X w) v b) (hB : BR 68719476736 a) (hla : a.length <= 1099511627776) : Calls Tryz.prog 32 #[u, v] w (BOut w (decide (a = b))) := by
  obtain ⟨ao, ca, rfl, hca, hsa⟩ := hu
  obtain ⟨bo, cb, rfl, hcb, hsb⟩ := hv
  have hha := hsa.hd
  have hhb := hsb.hd
  have hB' := hid hB
  clear hB
  by_cases hlen : a.length = b.length
  · have hbl : b.length <= a.length := by omega
    have hab : a.length <= b.length := by omega
    have hne : ((a.length : Int) != b.length) = false := bneF (by omega)
    have hlen' := hid hlen
    clear hlen
    go_enter Tryz.func32, Tryz.ntmps32
    go_wp2_with fail
    go_loopw [5] (fun c wr => ∃ i : Nat, c = .int .i64 i /\ i <= a.length /\ Hid (∀ p, p < i -> ∀ (hp : p < a.length) (hq : p < b.length), a[p] = b[p]) /\ Ext w wr) (fun c _ => a.length - (intOf c).toNat)
    case atStart => exact ⟨0, rfl, Nat.zero_le _, fun p hp => by omega, ExtX.refl _⟩
    case round =>
      obtain ⟨i, rfl, hi, hok, hE⟩ := hrel
      by_cases hlt : i < a.length
      · have hlt2 : i < b.length := by omega
        obtain ⟨g1, o1, s1, a1, n1, c1, d1, k1, e1, hg1, hX1, hc1, hq1⟩ := (hsa.mono QC.mono (mk_ext hE)).rat QC.shaped i hlt
        obtain ⟨g2, o2, s2, a2, n2, c2, d2, k2, e2, hg2, hX2, hc2, hq2⟩ := (hsb.mono QC.mono (mk_ext hE)).rat QC.shaped i hlt2
        have i1 : ∀ W, (Instr.indexAt 27 (.slice ao a.length ca) (.int .i64 (i : Int))).run Tryz.prog W = .ok (.pointer (some ⟨g1, o1, none⟩)) W := by rw [<- hg1]; exact run_indexAt_adr slRat ao a.length ca .i64 i hha (by omega)
        have i2 : ∀ W, (Instr.indexAt 27 (.slice bo b.length cb) (.int .i64 (i : Int))).run Tryz.prog W = .ok (.pointer (some ⟨g2, o2, none⟩)) W := by rw [<- hg2]; exact run_indexAt_adr slRat bo b.length cb .i64 i hhb (by omega)
        have hEd : Ext wr wr.drew := (ExtX.refl wr).drew
        have hS : Hid (∀ W', Ext wr.drew W' -> W'.cell? ⟨g1, o1, none⟩ = some (.bool s1) /\ W'.cell? ⟨g1, o1 + 1, none⟩ = some (.slice a1 n1 c1) /\ W'.cell? ⟨g1, o1 + 2, none⟩ = some (.slice d1 k1 e1) /\ W'.cell? ⟨g2, o2, none⟩ = some (.bool s2) /\ W'.cell? ⟨g2, o2 + 1, none⟩ = some (.slice a2 n2 c2) /\ W'.cell? ⟨g2, o2 + 2, none⟩ = some (.slice d2 k2 e2)) := hid fun W' h => by
          have p1 := hc1.out noY W' (hEd.trans h) rfl
          have p2 := hc2.out noY W' (hEd.trans h) rfl
          exact ⟨p1.1, p1.2.1, p1.2.2, p2.1, p2.2.1, p2.2.2⟩
        obtain ⟨k00, k01, k02, k10, k11, k12⟩ := hS.out wr.drew (ExtX.refl _)
        have hbq := hid (hB'.out a[i] (List.getElem_mem _))
        have hq1d : QC (mk X wr.drew) (.agg #[.bool s1, .slice a1 n1 c1, .slice d1 k1 e1]) a[i] := hq1
        have hq2d : QC (mk X wr.drew) (.agg #[.bool s2, .slice a2 n2 c2, .slice d2 k2 e2]) b[i] := hq2
        obtain ⟨x, hx⟩ : ∃ x, a[i] = x := ⟨_, rfl⟩
        obtain ⟨y, hy⟩ : ∃ y, b[i] = y := ⟨_, rfl⟩
        rw [hx] at hq1d hbq
        rw [hy] at hq2d
        have hx' := hid hx
        have hy' := hid hy
        clear hx hy hc1 hc2 hg1 hg2 hq1 hq2
        by_cases hxy : x = y
        · have hn : Hid (∀ (hp : i < a.length) (hq : i < b.length), a[i] = b[i]) := hid fun _ _ => by rw [hx'.out, hy'.out, hxy]
          have hb := hid (decide_eq_true hxy)
          clear hxy
          go_wp2_with fail
          go_region_held3 (fun w' => w'.cell? ⟨g1, o1, none⟩ = some (.bool s1) /\ w'.cell? ⟨g1, o1 + 1, none⟩ = some (.slice a1 n1 c1) /\ w'.cell? ⟨g1, o1 + 2, none⟩ = some (.slice d1 k1 e1) /\ w'.cell? ⟨g2, o2, none⟩ = some (.bool s2) /\ w'.cell? ⟨g2, o2 + 1, none⟩ = some (.slice a2 n2 c2) /\ w'.cell? ⟨g2, o2 + 2, none⟩ = some (.slice d2 k2 e2))
            (first | exact hS.out _ t1 | go_keep)
            ((go_at_call 67; (with_reducible refine (rqsame X wr.drew _ _ x y hq1d hq2d hbq.out).mono ?_); rintro ee w5 ⟨t1, rfl⟩; rw [hb.out]))
          have hE5 := hE.trans (hEd.trans t1)
          clear k00 k01 k02 k10 k11 k12
          go_wp2_with fail
          go_roundw
          case rel => exact ⟨i + 1, by go_num, by omega, upto_succ hok.out hn.out, hE5⟩
          case measure => simp [intOf]; omega
        · have hv : Hid (false = decide (a = b)) := hid (by
            symm
            rw [decide_eq_false_iff_not]
            intro h; subst h; exact hxy (hx'.out.symm.trans hy'.out))
          have hb := hid (decide_eq_false hxy)
          clear hxy
          go_wp2_with fail
          go_region_held3 (fun w' => w'.cell? ⟨g1, o1, none⟩ = some (.bool s1) /\ w'.cell? ⟨g1, o1 + 1, none⟩ = some (.slice a1 n1 c1) /\ w'.cell? ⟨g1, o1 + 2, none⟩ = some (.slice d1 k1 e1) /\ w'.cell? ⟨g2, o2, none⟩ = some (.bool s2) /\ w'.cell? ⟨g2, o2 + 1, none⟩ = some (.slice a2 n2 c2) /\ w'.cell? ⟨g2, o2 + 2, none⟩ = some (.slice d2 k2 e2))
            (first | exact hS.out _ t1 | go_keep)
            ((go_at_call 67; (with_reducible refine (rqsame X wr.drew _ _ x y hq1d hq2d hbq.out).mono ?_); rintro ee w5 ⟨t1, rfl⟩; rw [hb.out]))
          have hE5 := hE.trans (hEd.trans t1)
          clear k00 k01 k02 k10 k11 k12
          go_wp2_with fail
          go_ret
          exact ⟨hE5, ret_bool hv.out⟩
      · have hv : Hid (true = decide (a = b)) := hid (by
          symm
          rw [decide_eq_true_eq]
          exact ratlist_eq hlen'.out fun p hp => hok.out p (by omega))
        go_wp2_with fail
        go_ret
        exact ⟨hE, ret_bool hv.out⟩
  · have hne : ((a.length : Int) != b.length) = true := bneT (by omega)
    have hv : Hid (false = decide (a = b)) := hid (by
      symm
      rw [decide_eq_false_iff_not]
      intro h; subst h; exact hlen rfl)
    clear hlen
    go_enter Tryz.func32, Tryz.ntmps32
    go_wp2_with fail
    go_ret
    exact ⟨ExtX.refl _, ret_bool hv.out⟩
end Go.Proofs.YthipmbmjodhiiaaGreat
