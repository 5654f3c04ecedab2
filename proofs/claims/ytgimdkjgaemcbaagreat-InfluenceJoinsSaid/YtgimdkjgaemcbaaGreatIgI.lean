/- Parts of a proof: each theorem states what it proves, and its conditions. -/
import Derived.Test.YtgimdkjgaemcbaaGreatIgH
namespace Go.Lin
open Go.Lim
theorem est_hq {k t : Int} {l : List Rat} {B : Nat} (h : Go.Rep.BR B l) (hl : l.length <= 20) (hB : B <= 1000000) : hq (estL k t l) <= 50000000 := by
  unfold estL
  have hw : (winL (srt l) (rkA k t l.length) (rkB k t l.length)).length <= 20 := by
    unfold winL; rw [List.length_take, List.length_drop, srt_len]; omega
  have h1 := sumL_hq (n := 20) (winL_br (srt_br h) (rkA k t l.length) (rkB k t l.length)) hw _ (Nat.le_refl _)
  have h2 := hq_div (sumL (winL (srt l) (rkA k t l.length) (rkB k t l.length))) (((rkB k t l.length - rkA k t l.length : Nat) : Int) : Rat)
  have h3 : hq ((((rkB k t l.length - rkA k t l.length : Nat) : Int)) : Rat) <= 1000000 := by
    have hb : rkB k t l.length <= l.length + 1 := by
      unfold rkB
      repeat' split
      all_goals omega
    refine Nat.le_trans (hq_int _ 1 ?_ (Nat.le_refl _)) (by decide)
    rw [Int.natAbs_natCast]
    rcases Nat.eq_zero_or_pos (rkB k t l.length - rkA k t l.length) with h0 | h0
    · rw [h0]; decide
    · rw [lg_one_iff (by omega) (by omega)]; exact Nat.le_refl _
  have h4 : hq (sumL (winL (srt l) (rkA k t l.length) (rkB k t l.length))) <= 1 + 20 * (B + 1) := h1
  omega
def chkE (k t : Int) (n : Nat) : Int := if knownB k t = false then 1 else if n < 1 \/ 64 < n then 6 else if fitsB k t n = false then 10 else 0
theorem chkE_zero {k t : Int} {n : Nat} : chkE k t n = 0 ↔ knownL k t /\ fitsL k t n /\ n <= 64 := by
  rw [<- knownB_iff, <- fitsB_iff]
  unfold chkE
  cases h1 : knownB k t <;> cases h2 : fitsB k t n <;> simp
  · intro h; by_cases h0 : n = 0 \/ 64 < n <;> simp [h0] at h
  · have h3 := (fitsB_iff.1 h2).1
    omega
end Go.Lin
namespace Go.Proofs.YtgimdkjgaemcbaaGreat
open Go.RowKit Go.Rep Go.Lim Go.Lin
set_option maxRecDepth 100000 in
set_option maxHeartbeats 1600000 in
theorem icheck (w : World) (k t : Int) (ao : Option Addr) (n ca : Nat) (hn : n <= 9223372036854775807) :
    Calls Tryz.prog 70 #[.agg #[.int .i64 k, .int .i64 t], .slice ao n ca] w (IntOut w (chkE k t n)) := by
  obtain ⟨W, hW, hE, b0, hz⟩ := boxes1 w #[.int .i64 k, .int .i64 t] 28
  obtain ⟨b, hb⟩ : ∃ b, w.heap.size = b := ⟨_, rfl⟩
  rw [hb] at b0 hz
  have k0 : W.cell? ⟨b, 0, none⟩ = some (.int .i64 k) := b0.cell 0 rfl
  have k1 : W.cell? ⟨b, 1, none⟩ = some (.int .i64 t) := b0.cell 1 rfl
  have hf := ifits W k t n (by omega) (by omega)
  obtain ⟨kn, hkn⟩ : ∃ kn, knownB k t = kn := ⟨_, rfl⟩
  obtain ⟨fn, hfn⟩ : ∃ fn, fitsB k t n = fn := ⟨_, rfl⟩
  unfold chkE
  rw [hkn, hfn] at hf |-
  clear hkn hfn
  cases kn with
  | false =>
    go_enter Tryz.func70, Tryz.ntmps70
    go_wp2_with (go_at_call 93; refine hf.mono ?_; rintro ee w1 ⟨hE1, rfl⟩)
    go_ret
    exact ⟨hE.trans hE1, rfl⟩
  | true =>
    by_cases h1 : n < 1
    · have h1' : decide ((n : Int) < 1) = true := decide_eq_true (by omega)
      go_enter Tryz.func70, Tryz.ntmps70
      go_wp2_with (go_at_call 93; refine hf.mono ?_; rintro ee w1 ⟨hE1, rfl⟩)
      go_ret
      exact ⟨hE.trans hE1, by simp⟩
    · by_cases h2 : 64 < n
      · have h1' : decide ((n : Int) < 1) = false := decide_eq_false (by omega)
        have h2' : decide ((64 : Int) < n) = true := decide_eq_true (by omega)
        go_enter Tryz.func70, Tryz.ntmps70
        go_wp2_with (go_at_call 93; refine hf.mono ?_; rintro ee w1 ⟨hE1, rfl⟩)
        go_ret
        exact ⟨hE.trans hE1, by simp⟩
      · have h1' : decide ((n : Int) < 1) = false := decide_eq_false (by omega)
        have h2' : decide ((64 : Int) < n) = false := decide_eq_false (by omega)
        cases fn with
        | false =>
          go_enter Tryz.func70, Tryz.ntmps70
          go_wp2_with (go_at_call 93; refine hf.mono ?_; rintro ee w1 ⟨hE1, rfl⟩)
          go_ret
          exact ⟨hE.trans hE1, by simp⟩
        | true =>
          go_enter Tryz.func70, Tryz.ntmps70
          go_wp2_with (go_at_call 93; refine hf.mono ?_; rintro ee w1 ⟨hE1, rfl⟩)
          go_ret
          exact ⟨hE.trans hE1, by simp⟩
abbrev linZ : Array Value := #[.bool false, .slice none 0 0, .slice none 0 0, .bool false, .slice none 0 0, .slice none 0 0, .bool false, .bool false, .bool false, .slice none 0 0, .slice none 0 0, .bool false, .slice none 0 0, .slice none 0 0]
def linV (lo hi : Bool) (s1 : Bool) (a1 : Option Addr) (n1 c1 : Nat) (d1 : Option Addr) (k1 e1 : Nat) (s2 : Bool) (a2 : Option Addr) (n2 c2 : Nat) (d2 : Option Addr) (k2 e2 : Nat) : Array Value :=
  #[.bool false, .slice none 0 0, .slice none 0 0, .bool false, .slice none 0 0, .slice none 0 0, .bool lo, .bool hi, .bool s1, .slice a1 n1 c1, .slice d1 k1 e1, .bool s2, .slice a2 n2 c2, .slice d2 k2 e2]
def LinL (h : Mem) (v : Value) (p : Rat × Rat) : Prop := ∃ s1 a1 n1 c1 d1 k1 e1 s2 a2 n2 c2 d2 k2 e2, v = .agg (linV false false s1 a1 n1 c1 d1 k1 e1 s2 a2 n2 c2 d2 k2 e2) /\ QC h (.agg #[.bool s1, .slice a1 n1 c1, .slice d1 k1 e1]) p.1 /\ QC h (.agg #[.bool s2, .slice a2 n2 c2, .slice d2 k2 e2]) p.2
theorem LinL.mono : Mono LinL := by
  rintro h h' u p hl ⟨s1, a1, n1, c1, d1, k1, e1, s2, a2, n2, c2, d2, k2, e2, rfl, q1, q2⟩
  exact ⟨_, _, _, _, _, _, _, _, _, _, _, _, _, _, rfl, QC.mono _ _ _ _ hl q1, QC.mono _ _ _ _ hl q2⟩
theorem stLin : StructT Tryz.prog 40 14 := by
  have h : (Tryz.prog.info? 40).map (fun i => (i.zero, i.size)) = some (some (.agg linZ), 14) := by kernel_rfl
  cases hi : Tryz.prog.info? 40 with
  | none => rw [hi] at h; cases h
  | some ti => rw [hi] at h; simp at h; exact ⟨_, ti, Tryz.underlying40, hi, h.2⟩
set_option maxRecDepth 100000 in
set_option maxHeartbeats 1600000 in
theorem ipiece (X : Nat -> Bool) (w : World) (u vz vw : Value) (k t : Int) (l : List Rat) (z y : Rat) (B : Nat) (hX : HX X w) (hu : RV (mk X w) u l) (hz : QV (mk X w) vz z) (hy : QV (mk X w) vw y) (hk : knownL k t) (hf : fitsL k t (l.length + 1)) (hl : l.length <= 19) (hB : BR B l) (hBz : hq z <= B) (hBy : hq y <= B) (hBB : B <= 1000000) :
    Calls Tryz.prog 74 #[.agg #[.int .i64 k, .int .i64 t], u, vz, vw] w (ROut X w LinL (lineA (fun z => estL k t (l ++ [z])) z y, lineB (fun z => estL k t (l ++ [z])) z y)) := by
  obtain ⟨s1, a1, n1, c1, d1, k1, e1, rfl⟩ := hz.shape
  obtain ⟨s2, a2, n2, c2, d2, k2, e2, rfl⟩ := hy.shape
  obtain ⟨W, hW, hE, b0, b1, b2, b3, hzz⟩ := boxes4 w #[.int .i64 k, .int .i64 t] #[.bool s1, .slice a1 n1 c1, .slice d1 k1 e1] #[.bool s2, .slice a2 n2 c2, .slice d2 k2 e2] linZ 28 38 38 40
  have hXW : HX (hidB X w.heap.size 4) W := hX.boxes hzz
  have hu1 := RV.mono _ _ _ _ (le_boxes (nb := 4) hE) hu
  have hz1 := QV.mono _ _ _ _ (le_boxes (nb := 4) hE) hz
  have hy1 := QV.mono _ _ _ _ (le_boxes (nb := 4) hE) hy
  obtain ⟨b, hb⟩ : ∃ b, w.heap.size = b := ⟨_, rfl⟩
  have hbw : w.heap.size <= b := by omega
  rw [hb] at b0 b1 b2 b3 hzz hXW hu1 hz1 hy1
  obtain ⟨Z, hZ⟩ : ∃ Z, hidB X b 4 = Z := ⟨_, rfl⟩
  rw [hZ] at hXW hu1 hz1 hy1
  have hlw : ∀ q : Rat, (l ++ [q]).length = l.length + 1 := fun q => by simp
  have hBq : ∀ q : Rat, hq q <= B -> BR B (l ++ [q]) := fun q hq x hx => by
    rcases List.mem_append.1 hx with h | h
    · exact hB x h
    · rw [List.mem_singleton.1 h]; exact hq
  have hvz := hid fun M w' u' (hM : HX M w') (hr : RV (mk M w') u' (l ++ [z])) => infval M w' u' k t (l ++ [z]) B hM hr hk (by rw [hlw]; exact hf) (by rw [hlw]; omega) (hBq z hBz) (by omega)
  have hvy := hid fun M w' u' (hM : HX M w') (hr : RV (mk M w') u' (l ++ [y])) => infval M w' u' k t (l ++ [y]) B hM hr hk (by rw [hlw]; exact hf) (by rw [hlw]; omega) (hBq y hBy) (by omega)
  have hEw := hE
  have hEd : Ext W W.drew := (ExtX.refl W).drew
  have hXd := hXW.ext hEd
  have hud := hid (mkx RV.mono hu1 hEd)
  have hzd := hid (mkx QV.mono hz1 hEd)
  have hyd := hid (mkx QV.mono hy1 hEd)
  have hS : Hid (∀ w', Ext W w' -> w'.cell? ⟨b, 0, none⟩ = some (.int .i64 k) /\ w'.cell? ⟨b, 1, none⟩ = some (.int .i64 t) /\ w'.cell? ⟨b + 1, 0, none⟩ = some (.bool s1) /\ w'.cell? ⟨b + 1, 1, none⟩ = some (.slice a1 n1 c1) /\ w'.cell? ⟨b + 1, 2, none⟩ = some (.slice d1 k1 e1) /\ w'.cell? ⟨b + 1 + 1, 0, none⟩ = some (.bool s2) /\ w'.cell? ⟨b + 1 + 1, 1, none⟩ = some (.slice a2 n2 c2) /\ w'.cell? ⟨b + 1 + 1, 2, none⟩ = some (.slice d2 k2 e2)) := hid fun w' h =>
    ⟨(b0.ext0 h).cell 0 rfl, (b0.ext0 h).cell 1 rfl, (b1.ext0 h).cell 0 rfl, (b1.ext0 h).cell 1 rfl, (b1.ext0 h).cell 2 rfl, (b2.ext0 h).cell 0 rfl, (b2.ext0 h).cell 1 rfl, (b2.ext0 h).cell 2 rfl⟩
  go_enter Tryz.func74, Tryz.ntmps74
  go_upto_region 1 with fail
  refine wp_region_K 13 (fun w' => w'.cell? ⟨b, 0, none⟩ = some (.int .i64 k) /\ w'.cell? ⟨b, 1, none⟩ = some (.int .i64 t) /\ w'.cell? ⟨b + 1, 0, none⟩ = some (.bool s1) /\ w'.cell? ⟨b + 1, 1, none⟩ = some (.slice a1 n1 c1) /\ w'.cell? ⟨b + 1, 2, none⟩ = some (.slice d1 k1 e1) /\ w'.cell? ⟨b + 1 + 1, 0, none⟩ = some (.bool s2) /\ w'.cell? ⟨b + 1 + 1, 1, none⟩ = some (.slice a2 n2 c2) /\ w'.cell? ⟨b + 1 + 1, 2, none⟩ = some (.slice d2 k2 e2)) (by kernel_rfl) (by kernel_rfl) (hS.out _ hEd) (fun hHeld hOnce => ?_)
  refine kt 0 hOnce ?_
  refine kt 1 hOnce ?_
  refine kt 2 hOnce ?_
  refine kt 5 hOnce ?_
  refine kt 6 hOnce ?_
  refine kt 7 hOnce ?_
  refine chain_start [3, 4, 8, 9] [⟨10, 9, 38, #[.bool false, .slice none 0 0, .slice none 0 0]⟩, ⟨11, 10, 38, #[.bool false, .slice none 0 0, .slice none 0 0]⟩] Z 2 hXd hHeld (fun _ _ h hE => ⟨hE.cell h.1, hE.cell h.2.1, hE.cell h.2.2.1, hE.cell h.2.2.2.1, hE.cell h.2.2.2.2.1, hE.cell h.2.2.2.2.2.1, hE.cell h.2.2.2.2.2.2.1, hE.cell h.2.2.2.2.2.2.2⟩) ?_
  refine good_step (fun M1 w1 ps1 hX1 hZ1 hE1 hF1 hS1 K hK => ?_)
  simp only [setA, Act.put, List.setIfInBounds_toArray, List.set_cons_zero, List.set_cons_succ]
  go_simp
  (with_reducible refine (iwith M1 w1 u _ l z hX1 (upx RV.mono hF1 hud.out) (upx QV.mono hF1 hzd.out) (by omega)).mono ?_); rintro ee w' ⟨hE', u1, rfl, hu1⟩
  refine hK.out _ _ _ _ _ RV.mono hE' hu1 (by simp only [setA, Act.put, List.setIfInBounds_toArray, List.set_cons_zero, List.set_cons_succ]) ?_
  clear hK K hX1 hZ1 hE1 hF1 hS1
  refine good_step (fun M2 w2 ps2 hX2 hZ2 hE2 hF2 hS2 K hK => ?_)
  simp only [setA, Act.put, List.setIfInBounds_toArray, List.set_cons_zero, List.set_cons_succ]
  go_simp
  (with_reducible refine (hvz.out M2 w2 u1 hX2 hF2.2).mono ?_); rintro ee w' ⟨hE', u2, rfl, hu2⟩; obtain ⟨s5, a5, n5, c5, d5, k5, e5, rfl⟩ := hu2.shape
  refine hK.out _ _ _ _ _ QC.mono hE' hu2 (by simp only [setA, Act.put, List.setIfInBounds_toArray, List.set_cons_zero, List.set_cons_succ]) ?_
  clear hK K hX2 hZ2 hE2 hF2 hS2
  refine good_step (fun M3 w3 ps3 hX3 hZ3 hE3 hF3 hS3 K hK => ?_)
  simp only [setA, Act.put, List.setIfInBounds_toArray, List.set_cons_zero, List.set_cons_succ]
  go_simp
  (with_reducible refine (iwith M3 w3 u _ l y hX3 (upx RV.mono hF3.1.1 hud.out) (upx QV.mono hF3.1.1 hyd.out) (by omega)).mono ?_); rintro ee w' ⟨hE', u3, rfl, hu3⟩
  refine hK.out _ _ _ _ _ RV.mono hE' hu3 (by simp only [setA, Act.put, List.setIfInBounds_toArray, List.set_cons_zero, List.set_cons_succ]) ?_
  clear hK K hX3 hZ3 hE3 hF3 hS3
  refine good_step (fun M4 w4 ps4 hX4 hZ4 hE4 hF4 hS4 K hK => ?_)
  simp only [setA, Act.put, List.setIfInBounds_toArray, List.set_cons_zero, List.set_cons_succ]
  go_simp
  (with_reducible refine (hvy.out M4 w4 u3 hX4 hF4.2).mono ?_); rintro ee w' ⟨hE', u4, rfl, hu4⟩; obtain ⟨s6, a6, n6, c6, d6, k6, e6, rfl⟩ := hu4.shape
  refine hK.out _ _ _ _ _ QC.mono hE' hu4 (by simp only [setA, Act.put, List.setIfInBounds_toArray, List.set_cons_zero, List.set_cons_succ]) ?_
  clear hK K hX4 hZ4 hE4 hF4 hS4
  refine chg_end (fun M w5 gs hX5 hZ5 hE5 hF5 hS5 hb5 hn5 => ?_)
  simp only [setA, ptr, Act.put, List.setIfInBounds_toArray, List.set_cons_zero, List.set_cons_succ]
  obtain ⟨g9, hg9⟩ : ∃ g, gs 0 = g := ⟨_, rfl⟩
  obtain ⟨g10, hg10⟩ : ∃ g, gs 1 = g := ⟨_, rfl⟩
  obtain ⟨x9, m9, l9⟩ := hb5 0 _ rfl
  obtain ⟨x10, m10, l10⟩ := hb5 1 _ rfl
  have h910 := hn5 0 1 (by decide) (by simp)
  rw [hg9] at x9 m9 l9 h910
  rw [hg10] at x10 m10 l10 h910
  simp only [hg9, hg10]
  have hbl : ∀ k, k <= b + 1 + 1 + 1 -> k < W.drew.heap.size := fun k hk => by show k < W.heap.size; omega
  have hob : ∀ k, k <= b + 1 + 1 + 1 -> ob (some ⟨g9, 0, none⟩) k = false := fun k hk => by have := hbl k hk; simp [ob]; omega
  have ob0 := hob b (by omega)
  have ob1 := hob (b + 1) (by omega)
  have ob2 := hob (b + 1 + 1) (by omega)
  refine ks 12 (fun K hK => ?_)
  (refine step_storeBox rfl rfl stRat rfl rfl x9 rfl rfl (one3 _ _ _ _ _ _ _) ?_; intro w6 z9 y9)
  refine kcn hK ⟨y9.cellY hS5.1 ob0, y9.cellY hS5.2.1 ob0, y9.cellY hS5.2.2.1 ob1, y9.cellY hS5.2.2.2.1 ob1, y9.cellY hS5.2.2.2.2.1 ob1, y9.cellY hS5.2.2.2.2.2.1 ob2, y9.cellY hS5.2.2.2.2.2.2.1 ob2, y9.cellY hS5.2.2.2.2.2.2.2 ob2⟩ (fun hHeld => ?_)
  clear hK K
  have x10' := x10.ext y9 (ob_other (by omega))
  refine kl 13 (fun K hK => ?_)
  (refine step_storeBox rfl rfl stRat rfl rfl x10' rfl rfl (one3 _ _ _ _ _ _ _) ?_; intro w7 z10 y10)
  refine hK.out _ _ ?_
  clear hK K
  (try simp only [Act.put])
  have z9' := z9.ext y10 (ob_other (by omega))
  have mm : ∀ g, M g = true -> ∀ k, ob (some ⟨g, 0, none⟩) k = true -> M k = true := fun g hg k hk => by
    have : g = k := by simpa [ob] using hk
    rw [<- this]; exact hg
  have hl67 := (mk_mono y9 (mm g9 m9)).trans (mk_mono y10 (mm g10 m10))
  have q9 := QC.mono _ _ _ _ hl67 hF5.1.1.2
  have q10 := QC.mono _ _ _ _ hl67 hF5.2
  have qz := QV.mono _ _ _ _ (hF5.1.1.1.1.trans hl67) hzd.out
  have qy := QV.mono _ _ _ _ (hF5.1.1.1.1.trans hl67) hyd.out
  have hX7 : HX M w7 := (hX5.ext y9).ext y10
  have hE7 : Ext W w7 := ExtX.box (ExtX.box (hEd.trans hE5) y9 l9) y10 l10
  have hZM := hid hZ5
  obtain ⟨ez, hez⟩ : ∃ e, estL k t (l ++ [z]) = e := ⟨_, rfl⟩
  obtain ⟨ey, hey⟩ : ∃ e, estL k t (l ++ [y]) = e := ⟨_, rfl⟩
  have hqz : Hid (hq ez <= 50000000) := hid (by rw [<- hez]; exact est_hq (hBq z hBz) (by rw [hlw]; omega) (by omega))
  have hqy : Hid (hq ey <= 50000000) := hid (by rw [<- hey]; exact est_hq (hBq y hBy) (by rw [hlw]; omega) (by omega))
  have hLA : Hid (lineB (fun z => estL k t (l ++ [z])) z y = (ey - ez) / (y - z) /\ lineA (fun z => estL k t (l ++ [z])) z y = ez - (ey - ez) / (y - z) * z) := hid ⟨by rw [<- hez, <- hey]; rfl, by rw [<- hez, <- hey]; rfl⟩
  rw [hez] at q9
  rw [hey] at q10
  have hb1 : Hid (hq (ey - ez) <= 110000000 /\ hq (y - z) <= 2100000 /\ hq ((ey - ez) / (y - z)) <= 120000000 /\ hq ((ey - ez) / (y - z) * z) <= 130000000) := hid (by
    have a1 := hq_sub ey ez
    have a2 := hq_sub y z
    have a3 := hq_div (ey - ez) (y - z)
    have a4 := hq_mul ((ey - ez) / (y - z)) z
    have a5 := hqz.out
    have a6 := hqy.out
    omega)
  have bz7 := b1.ext0 hE7
  have by7 := b2.ext0 hE7
  have br7 := b3.ext0 hE7
  have hgb : b + 1 + 1 + 1 < g9 /\ b + 1 + 1 + 1 < g10 := ⟨Nat.lt_of_lt_of_le (hbl _ (Nat.le_refl _)) l9, Nat.lt_of_lt_of_le (hbl _ (Nat.le_refl _)) l10⟩
  clear hu1 hu2 hu3 hu4 hF5 hS5 hb5 hn5 hez hey hX5 hZ5 hE5 x9 x10 x10' z9 y9 y10 hob ob0 ob1 ob2 hbl hS hud hzd hyd hXd hvz hvy hHeld hOnce l9 l10 m9 m10 hl67 hg9 hg10 hE
  have hEd2 : Ext w7 w7.drew := (ExtX.refl w7).drew
  have hXd2 := hX7.ext hEd2
  have hwS : w7.drew.cell? ⟨g10, 0, none⟩ = some (.bool s6) /\ w7.drew.cell? ⟨g10, 1, none⟩ = some (.slice a6 n6 c6) /\ w7.drew.cell? ⟨g10, 2, none⟩ = some (.slice d6 k6 e6) /\ w7.drew.cell? ⟨g9, 0, none⟩ = some (.bool s5) /\ w7.drew.cell? ⟨g9, 1, none⟩ = some (.slice a5 n5 c5) /\ w7.drew.cell? ⟨g9, 2, none⟩ = some (.slice d5 k5 e5) /\ w7.drew.cell? ⟨b + 1 + 1, 0, none⟩ = some (.bool s2) /\ w7.drew.cell? ⟨b + 1 + 1, 1, none⟩ = some (.slice a2 n2 c2) /\ w7.drew.cell? ⟨b + 1 + 1, 2, none⟩ = some (.slice d2 k2 e2) /\ w7.drew.cell? ⟨b + 1, 0, none⟩ = some (.bool s1) /\ w7.drew.cell? ⟨b + 1, 1, none⟩ = some (.slice a1 n1 c1) /\ w7.drew.cell? ⟨b + 1, 2, none⟩ = some (.slice d1 k1 e1) := ⟨hEd2.cell (z10.cell 0 rfl), hEd2.cell (z10.cell 1 rfl), hEd2.cell (z10.cell 2 rfl), hEd2.cell (z9'.cell 0 rfl), hEd2.cell (z9'.cell 1 rfl), hEd2.cell (z9'.cell 2 rfl), hEd2.cell (by7.cell 0 rfl), hEd2.cell (by7.cell 1 rfl), hEd2.cell (by7.cell 2 rfl), hEd2.cell (bz7.cell 0 rfl), hEd2.cell (bz7.cell 1 rfl), hEd2.cell (bz7.cell 2 rfl)⟩
  go_upto_region 2 with fail
  (try simp only [Act.put])
  refine wp_region_K 8 (fun w' => w'.cell? ⟨g10, 0, none⟩ = some (.bool s6) /\ w'.cell? ⟨g10, 1, none⟩ = some (.slice a6 n6 c6) /\ w'.cell? ⟨g10, 2, none⟩ = some (.slice d6 k6 e6) /\ w'.cell? ⟨g9, 0, none⟩ = some (.bool s5) /\ w'.cell? ⟨g9, 1, none⟩ = some (.slice a5 n5 c5) /\ w'.cell? ⟨g9, 2, none⟩ = some (.slice d5 k5 e5) /\ w'.cell? ⟨b + 1 + 1, 0, none⟩ = some (.bool s2) /\ w'.cell? ⟨b + 1 + 1, 1, none⟩ = some (.slice a2 n2 c2) /\ w'.cell? ⟨b + 1 + 1, 2, none⟩ = some (.slice d2 k2 e2) /\ w'.cell? ⟨b + 1, 0, none⟩ = some (.bool s1) /\ w'.cell? ⟨b + 1, 1, none⟩ = some (.slice a1 n1 c1) /\ w'.cell? ⟨b + 1, 2, none⟩ = some (.slice d1 k1 e1)) (by kernel_rfl) (by kernel_rfl) hwS (fun hHeld hOnce => ?_)
  refine kt 0 hOnce ?_
  refine kt 1 hOnce ?_
  refine kt 3 hOnce ?_
  refine kt 4 hOnce ?_
  refine chain_start [2, 5, 6] [⟨7, 11, 38, #[.bool false, .slice none 0 0, .slice none 0 0]⟩] M 1 hXd2 hHeld (fun _ _ h hE => ⟨hE.cell h.1, hE.cell h.2.1, hE.cell h.2.2.1, hE.cell h.2.2.2.1, hE.cell h.2.2.2.2.1, hE.cell h.2.2.2.2.2.1, hE.cell h.2.2.2.2.2.2.1, hE.cell h.2.2.2.2.2.2.2.1, hE.cell h.2.2.2.2.2.2.2.2.1, hE.cell h.2.2.2.2.2.2.2.2.2.1, hE.cell h.2.2.2.2.2.2.2.2.2.2.1, hE.cell h.2.2.2.2.2.2.2.2.2.2.2⟩) ?_
  refine good_step (fun M1 w1 ps1 hX1 hZ1 hE1 hF1 hS1 K hK => ?_)
  simp only [setA, Act.put, List.setIfInBounds_toArray, List.set_cons_zero, List.set_cons_succ]
  go_simp
  (with_reducible refine (qsub M1 w1 _ _ _ _ hX1 (upx QV.mono hF1 ((mkx QC.mono q10 hEd2).qv (Nat.le_trans hqy.out (by decide)))) (upx QV.mono hF1 ((mkx QC.mono q9 hEd2).qv (Nat.le_trans hqz.out (by decide))))).mono ?_); rintro ee w' ⟨hE', u1, rfl, hu1⟩
  refine hK.out _ _ _ _ _ QC.mono hE' hu1 (by simp only [setA, Act.put, List.setIfInBounds_toArray, List.set_cons_zero, List.set_cons_succ]) ?_
  clear hK K hX1 hZ1 hE1 hF1 hS1
  refine good_step (fun M2 w2 ps2 hX2 hZ2 hE2 hF2 hS2 K hK => ?_)
  simp only [setA, Act.put, List.setIfInBounds_toArray, List.set_cons_zero, List.set_cons_succ]
  go_simp
  (with_reducible refine (qsub M2 w2 _ _ _ _ hX2 (upx QV.mono hF2.1 (mkx QV.mono qy hEd2)) (upx QV.mono hF2.1 (mkx QV.mono qz hEd2))).mono ?_); rintro ee w' ⟨hE', u2, rfl, hu2⟩
  refine hK.out _ _ _ _ _ QC.mono hE' hu2 (by simp only [setA, Act.put, List.setIfInBounds_toArray, List.set_cons_zero, List.set_cons_succ]) ?_
  clear hK K hX2 hZ2 hE2 hF2 hS2
  refine good_step (fun M3 w3 ps3 hX3 hZ3 hE3 hF3 hS3 K hK => ?_)
  simp only [setA, Act.put, List.setIfInBounds_toArray, List.set_cons_zero, List.set_cons_succ]
  go_simp
  (with_reducible refine (equot M3 w3 _ _ _ _ hX3 (hF3.1.2.qv (Nat.le_trans hb1.out.1 (by decide))) (hF3.2.qv (Nat.le_trans hb1.out.2.1 (by decide)))).mono ?_); rintro ee w' ⟨hE', u3, rfl, hu3⟩; obtain ⟨s7, a7, n7, c7, d7, k7, e7, rfl⟩ := hu3.shape
  refine hK.out _ _ _ _ _ QC.mono hE' hu3 (by simp only [setA, Act.put, List.setIfInBounds_toArray, List.set_cons_zero, List.set_cons_succ]) ?_
  clear hK K hX3 hZ3 hE3 hF3 hS3
  refine chg_end (fun M' w8 gs hX8 hZ8 hE8 hF8 hS8 hb8 hn8 => ?_)
  simp only [setA, ptr, Act.put, List.setIfInBounds_toArray, List.set_cons_zero, List.set_cons_succ]
  obtain ⟨g11, hg11⟩ : ∃ g, gs 0 = g := ⟨_, rfl⟩
  obtain ⟨x11, m11, l11⟩ := hb8 0 _ rfl
  rw [hg11] at x11 m11 l11
  simp only [hg11]
  refine kl 8 (fun K hK => ?_)
  (refine step_storeBox rfl rfl stRat rfl rfl x11 rfl rfl (one3 _ _ _ _ _ _ _) ?_; intro w9 z11 y11)
  refine hK.out _ _ ?_
  clear hK K
  (try simp only [Act.put])
  have hl9 := mk_mono (X := M') y11 (fun k hk => by
    have : g11 = k := by simpa [ob] using hk
    rw [<- this]; exact m11)
  have q11 := (QC.mono _ _ _ _ hl9 hF8.2).qv (Nat.le_trans hb1.out.2.2.1 (by decide))
  have q11c := QC.mono _ _ _ _ hl9 hF8.2
  have hle9 : Le (mk M w7) (mk M' w9) := (mk_ext hEd2).trans (hF8.1.1.1.trans hl9)
  have q9' := (QC.mono _ _ _ _ hle9 q9).qv (Nat.le_trans hqz.out (by decide))
  have qz' := QV.mono _ _ _ _ hle9 qz
  have hX9 : HX M' w9 := hX8.ext y11
  have hE79 : Ext w7 w9 := ExtX.box (hEd2.trans hE8) y11 l11
  have z99 := z9'.ext0 hE79
  have bz9 := bz7.ext0 hE79
  have br9 := br7.ext0 hE79
  have hMM := hid (fun k (hk : Z k = true) => hZ8 k (hZM.out k hk))
  have hE9 := hE7.trans hE79
  clear hu1 hu2 hu3 hF8 hS8 hb8 hn8 hX8 hZ8 hE8 x11 y11 hl9 hle9 hwS hHeld hOnce hXd2 q9 q10 qz qy z9' z10 bz7 by7 br7 l11 m11 hg11 hX7
  have hEd3 : Ext w9 w9.drew := (ExtX.refl w9).drew
  have hXd3 := hX9.ext hEd3
  have hwS : w9.drew.cell? ⟨g9, 0, none⟩ = some (.bool s5) /\ w9.drew.cell? ⟨g9, 1, none⟩ = some (.slice a5 n5 c5) /\ w9.drew.cell? ⟨g9, 2, none⟩ = some (.slice d5 k5 e5) /\ w9.drew.cell? ⟨g11, 0, none⟩ = some (.bool s7) /\ w9.drew.cell? ⟨g11, 1, none⟩ = some (.slice a7 n7 c7) /\ w9.drew.cell? ⟨g11, 2, none⟩ = some (.slice d7 k7 e7) /\ w9.drew.cell? ⟨b + 1, 0, none⟩ = some (.bool s1) /\ w9.drew.cell? ⟨b + 1, 1, none⟩ = some (.slice a1 n1 c1) /\ w9.drew.cell? ⟨b + 1, 2, none⟩ = some (.slice d1 k1 e1) := ⟨hEd3.cell (z99.cell 0 rfl), hEd3.cell (z99.cell 1 rfl), hEd3.cell (z99.cell 2 rfl), hEd3.cell (z11.cell 0 rfl), hEd3.cell (z11.cell 1 rfl), hEd3.cell (z11.cell 2 rfl), hEd3.cell (bz9.cell 0 rfl), hEd3.cell (bz9.cell 1 rfl), hEd3.cell (bz9.cell 2 rfl)⟩
  go_upto_region 3 with fail
  (try simp only [Act.put])
  refine wp_region_K 7 (fun w' => w'.cell? ⟨g9, 0, none⟩ = some (.bool s5) /\ w'.cell? ⟨g9, 1, none⟩ = some (.slice a5 n5 c5) /\ w'.cell? ⟨g9, 2, none⟩ = some (.slice d5 k5 e5) /\ w'.cell? ⟨g11, 0, none⟩ = some (.bool s7) /\ w'.cell? ⟨g11, 1, none⟩ = some (.slice a7 n7 c7) /\ w'.cell? ⟨g11, 2, none⟩ = some (.slice d7 k7 e7) /\ w'.cell? ⟨b + 1, 0, none⟩ = some (.bool s1) /\ w'.cell? ⟨b + 1, 1, none⟩ = some (.slice a1 n1 c1) /\ w'.cell? ⟨b + 1, 2, none⟩ = some (.slice d1 k1 e1)) (by kernel_rfl) (by kernel_rfl) hwS (fun hHeld hOnce => ?_)
  refine kt 0 hOnce ?_
  refine kt 1 hOnce ?_
  refine kt 2 hOnce ?_
  refine kt 5 hOnce ?_
  refine ks 3 (fun K hK => ?_)
  go_simp
  ((with_reducible refine (qmul M' w9.drew _ _ _ _ hXd3 (mkx QV.mono q11 hEd3) (mkx QV.mono qz' hEd3)).mono ?_); rintro ee wa ⟨ga, ua, rfl, hua⟩; obtain ⟨s8, a8, n8, c8, d8, k8, e8, rfl⟩ := hua.shape)
  refine kcn hK ⟨ga.cell hHeld.1, ga.cell hHeld.2.1, ga.cell hHeld.2.2.1, ga.cell hHeld.2.2.2.1, ga.cell hHeld.2.2.2.2.1, ga.cell hHeld.2.2.2.2.2.1, ga.cell hHeld.2.2.2.2.2.2.1, ga.cell hHeld.2.2.2.2.2.2.2.1, ga.cell hHeld.2.2.2.2.2.2.2.2⟩ (fun hHeld => ?_)
  clear hK K
  refine ks 4 (fun K hK => ?_)
  go_simp
  ((with_reducible refine (qsub M' wa _ _ _ _ (hXd3.ext ga) (mkx QV.mono q9' (hEd3.trans ga)) (hua.qv (Nat.le_trans hb1.out.2.2.2 (by decide)))).mono ?_); rintro ee wb ⟨gb, ub, rfl, hub⟩; obtain ⟨s9, a9, n9, c9, d9, k9, e9, rfl⟩ := hub.shape)
  refine kcn hK ⟨gb.cell hHeld.1, gb.cell hHeld.2.1, gb.cell hHeld.2.2.1, gb.cell hHeld.2.2.2.1, gb.cell hHeld.2.2.2.2.1, gb.cell hHeld.2.2.2.2.2.1, gb.cell hHeld.2.2.2.2.2.2.1, gb.cell hHeld.2.2.2.2.2.2.2.1, gb.cell hHeld.2.2.2.2.2.2.2.2⟩ (fun hHeld => ?_)
  clear hK K
  have gab := hEd3.trans (ga.trans gb)
  refine kt 6 hOnce ?_
  have brb := br9.ext0 gab
  refine kl 7 (fun K hK => ?_)
  (refine step_storeBox rfl rfl stLin rfl rfl brb rfl rfl (by simp [Value.oneCell']) ?_; intro wf xf yf)
  refine hK.out _ _ ?_
  clear hK K
  (try simp only [Act.put])
  have hl3 : Le (mk M' wb) (mk X wf) := (mk_mono yf (fun k hk => hMM.out k (by
    have h1 : b + 1 + 1 + 1 = k := by simpa [ob] using hk
    rw [<- hZ, <- h1]; exact hidB_in (by omega) (by omega)))).trans (mk_sub fun k _ hk => hMM.out k (by rw [<- hZ]; exact hidB_X hk))
  have hqA := QC.mono _ _ _ _ hl3 hub
  have hqB := QC.mono _ _ _ _ hl3 (mkx QC.mono q11c gab)
  rw [<- hLA.out.2] at hqA
  rw [<- hLA.out.1] at hqB
  go_wp2_with fail
  exact bodyPost_ret (results_box rfl rfl stLin xf rfl) rfl ⟨ExtX.box (hEw.trans (hE9.trans gab)) yf (by omega), _, rfl, _, _, _, _, _, _, _, _, _, _, _, _, _, _, rfl, hqA, hqB⟩
end Go.Proofs.YtgimdkjgaemcbaaGreat
namespace Go.Rep
open Go.RowKit Go.Lim
section
variable {P : Program} {α : Type} {R : Mem -> Value -> α -> Prop} {sz : Nat} {X : Nat -> Bool} {base : Nat} {e : TypeId} {w : World} {ao : Option Addr} {cap : Nat} {l : List α}
theorem flat_seg {sz : Nat} : ∀ (us : List Value) (i : Nat) (hi : i < us.length), (∀ u ∈ us, u.cells.size = sz) -> ((us.flatMap cellsL).drop (i * sz)).take sz = cellsL us[i]
  | [], i, hi, _ => by simp at hi
  | v :: us, 0, _, h => by
    have hv : (cellsL v).length = sz := by have := h v (by simp); simpa [cellsL] using this
    simp only [List.flatMap_cons, Nat.zero_mul, List.drop_zero, List.getElem_cons_zero]
    rw [<- hv, List.take_left]
  | v :: us, i + 1, hi, h => by
    have hv : (cellsL v).length = sz := by have := h v (by simp); simpa [cellsL] using this
    simp only [List.flatMap_cons, List.getElem_cons_succ]
    rw [Nat.succ_mul, Nat.add_comm, <- hv, List.drop_length_add_append, hv]
    exact flat_seg us i (by simpa using hi) (fun u hu => h u (by simp [hu]))
theorem list_mid {β : Type} (L V : List β) (p j m sz : Nat) (h : j + m <= sz) :
    L.take (p + j) ++ V ++ L.drop (p + j + m) = L.take p ++ (((L.drop p).take sz).take j ++ V ++ ((L.drop p).take sz).drop (j + m)) ++ L.drop (p + sz) := by
  have e1 : L.take (p + j) = L.take p ++ ((L.drop p).take sz).take j := by
    rw [List.take_take, Nat.min_eq_left (by omega), List.take_add]
  have e2 : L.drop (p + j + m) = ((L.drop p).take sz).drop (j + m) ++ L.drop (p + sz) := by
    have h1 : L.drop (p + j + m) = (L.drop p).drop (j + m) := by rw [List.drop_drop]; congr 1; omega
    have h2 : L.drop (p + sz) = (L.drop p).drop sz := by rw [List.drop_drop]
    rw [h1, h2, List.drop_take]
    generalize L.drop p = D
    have h3 : D.drop sz = (D.drop (j + m)).drop (sz - (j + m)) := by rw [List.drop_drop]; congr 1; omega
    rw [h3, List.take_append_drop]
  rw [e1, e2]
  simp only [List.append_assoc]
theorem OL.run_storeSub {t t0 : TypeId} {ti ti0 : TypeInfo} {m : Nat} (ht0 : P.info? t0 = some ti0) (hts0 : ti0.size = sz) (ht : P.info? t = some ti) (hts : ti.size = m) (hR : Elem R sz) (h : OL R sz X base e w ao cap l) (i j : Nat) (hi : i < l.length) (hj : j + m <= sz) (v : Value) (hv : v.cells.size = m) (hone : ∀ c ∈ cellsL v, c.oneCell' = true) (y : α)
    (hu : ∀ u, R (mk (un X ao) w) u l[i] -> ∃ u', cellsL u' = (cellsL u).take j ++ cellsL v ++ (cellsL u).drop (j + m) /\ R (mk (un X ao) w) u' y) :
    ∃ w', (storeVar t (adr ao (i * sz + j)) v).run P w = .ok () w' /\ OL R sz X base e w' ao cap (l.set i y) /\ ExtX (ob ao) w w' := by
  have hform := h.form
  have hh := h
  obtain ⟨hx, us, h1, h2, h22, h3, h5⟩ := h
  rcases hform with ⟨rfl, rfl, rfl⟩ | ⟨g, cur, rfl, h6, h7, h8, h9, h10⟩
  · simp at hi
  have hi' : i < us.length := by omega
  obtain ⟨u', hu1, hu2⟩ := hu us[i] (h5 i hi' hi)
  obtain ⟨w', hr, h11, h12⟩ := hh.run_store (P := P) ht0 hts0 hR i hi u' y hu2
  have hadr : ∀ q, adr (some ⟨g, 0, none⟩) q = ⟨g, q, none⟩ := fun q => by simp [adr]
  have hsub : (i + 1) * sz <= l.length * sz := Nat.mul_le_mul_right _ hi
  have hsub2 : l.length * sz <= cap * sz := Nat.mul_le_mul_right _ h8
  rw [Nat.succ_mul] at hsub
  have hus' := hR.size _ _ _ hu2
  have hst1 := run_storeCells_at P g (i * sz) e (cellsL u') 0 cur w h7 (by simp [cellsL, hus', h10]; omega) (hR.one _ _ _ hu2)
  have hst2 := run_storeCells_at P g (i * sz + j) e (cellsL v) 0 cur w h7 (by simp [cellsL, hv, h10]; omega) hone
  have hseg : (cur.toList.drop (i * sz)).take sz = cellsL us[i] := by
    rcases h3.2 with ⟨hv', _⟩ | ⟨g', c', cur', hv', _, h7', _, _, _, h12'⟩
    · simp at hv'
    simp at hv'
    obtain ⟨rfl, rfl⟩ := hv'
    rw [h7] at h7'
    obtain rfl : cur = cur' := by simpa using h7'
    have := flat_seg us i hi' h2
    rw [<- h12', List.drop_take, List.take_take, Nat.min_eq_left (by omega)] at this
    exact this
  have hw' : w' = w.setRow g (cur.toList.take (i * sz + 0) ++ cellsL u' ++ cur.toList.drop (i * sz + 0 + (cellsL u').length)).toArray := by
    rw [hadr] at hr
    simp [storeVar, sizeOf, typeInfo, ht0, hts0, hus'] at hr
    have h13 := hst1
    simp only [cellsL] at h13 hr
    rw [h13] at hr
    simpa [cellsL] using hr.symm
  have hl1 : (cellsL u').length = sz := by simp [cellsL, hus']
  have hl2 : (cellsL v).length = m := by simp [cellsL, hv]
  have hEq : cur.toList.take (i * sz + j + 0) ++ cellsL v ++ cur.toList.drop (i * sz + j + 0 + (cellsL v).length) = cur.toList.take (i * sz + 0) ++ cellsL u' ++ cur.toList.drop (i * sz + 0 + (cellsL u').length) := by
    rw [hl1, hl2, hu1, <- hseg]
    exact list_mid cur.toList (cellsL v) (i * sz) j m sz hj
  refine ⟨w', ?_, h11, h12⟩
  rw [hw', <- hEq, hadr]
  simp [storeVar, sizeOf, typeInfo, ht, hts, hv]
  simpa [cellsL] using hst2
theorem step_storeElemSub {ops : Array Oper} {Q : Exit -> Act -> World -> Prop} {a : Act} {o : Oper} {K : Act -> World -> Prop} {E : Prop} {t t0 : TypeId} {m : Nat} {px py : Operand} (hg : o.guard = none) (hop : o.op = .store t px py) (hT0 : TyI P t0 sz) (hT : TyI P t m) (hR : Elem R sz) (i j : Nat) {A : Addr} (hx : a.eval px = .pointer (some A)) (hA : adr ao (i * sz + j) = A)
    (h : OL R sz X base e w ao cap l) (hi : i < l.length) (hj : j + m <= sz) (v : Value) (hy : a.eval py = v) (hv : v.cells.size = m) (hone : ∀ c ∈ cellsL v, c.oneCell' = true) (y : α)
    (hu : ∀ u, R (mk (un X ao) w) u l[i] -> ∃ u', cellsL u' = (cellsL u).take j ++ cellsL v ++ (cellsL u).drop (j + m) /\ R (mk (un X ao) w) u' y)
    (hK : ∀ w', OL R sz X base e w' ao cap (l.set i y) -> ExtX (ob ao) w w' -> K (a.put o.dst undef) w') :
    if Region.wanted o (yielded ops a.tmps) = true then Oper.wp P o a w K Q else E := by
  have hw : Region.wanted o (yielded ops a.tmps) = true := by simp [Region.wanted, hg]
  rw [if_pos hw]
  obtain ⟨ti, ht, hts⟩ := hT
  obtain ⟨ti0, ht0, hts0⟩ := hT0
  obtain ⟨w', hr, h2, h3⟩ := h.run_storeSub (P := P) ht0 hts0 ht hts hR i j hi hj v hv hone y hu
  rw [hA] at hr
  unfold Oper.wp execOp
  rw [hop]
  simp [hx, hy, Instr.storeAt, Instr.sureAddr, hr, Result.andThen]
  exact hK _ h2 h3
end
section
variable {P : Program} {ops : Array Oper} {Q : Exit -> Act -> World -> Prop} {a : Act} {w : World}
theorem step_storeSub {o : Oper} {K : Act -> World -> Prop} {E : Prop} {t : TypeId} {x y : Operand} {n b i : Nat} {cs vs : Array Value} {T : TypeId} (hg : o.guard = none) (hop : o.op = .store t x y) (hT : StructT P t n) (hx : a.eval x = .pointer (some ⟨b, i, none⟩)) (hy : a.eval y = .agg vs) (hb : Bx w b cs T) (hcs : i + n <= cs.size) (hvs : vs.size = n) (hone : ∀ v ∈ vs.toList, v.oneCell' = true)
    (hK : ∀ w', Bx w' b (cs.toList.take i ++ vs.toList ++ cs.toList.drop (i + n)).toArray T -> ExtX (ob (some ⟨b, 0, none⟩)) w w' -> K (a.put o.dst undef) w') :
    if Region.wanted o (yielded ops a.tmps) = true then Oper.wp P o a w K Q else E := by
  have hw : Region.wanted o (yielded ops a.tmps) = true := by simp [Region.wanted, hg]
  rw [if_pos hw]
  obtain ⟨fs, ti, h1, h2, h3⟩ := hT
  have hst := run_storeCells_at P b i T vs.toList 0 cs w hb (by simp [hvs]; omega) hone
  have hr : (storeVar t ⟨b, i, none⟩ (.agg vs)).run P w = .ok () (w.setRow b (cs.toList.take (i + 0) ++ vs.toList ++ cs.toList.drop (i + 0 + vs.toList.length)).toArray) := by
    simp [storeVar, sizeOf, typeInfo, h2, h3, Value.cells, hvs]
    simp only [Nat.add_zero, Array.length_toList, hvs, List.append_assoc] at hst |-
    exact hst
  unfold Oper.wp execOp
  rw [hop]
  simp [hx, hy, Instr.storeAt, Instr.sureAddr, hr, Result.andThen]
  refine hK _ ?_ ?_
  · unfold Bx
    have := setRow_heap w b cs (cs.toList.take (i + 0) ++ vs.toList ++ cs.toList.drop (i + 0 + vs.toList.length)).toArray T (0, 0) hb
    simp only [Nat.add_zero, Array.length_toList, hvs, List.append_assoc] at this |-
    exact this
  · exact ⟨rfl, rfl, rfl, by simp, fun k _ hk => setRow_other w b k _ (fun ek => by subst ek; simp [ob] at hk)⟩
end
end Go.Rep
namespace Go.Rep
open Go.RowKit Go.Lim Go.Lin
def LinR (h : Mem) (v : Value) (p : Pc) : Prop := ∃ s1 a1 n1 c1 d1 k1 e1 s2 a2 n2 c2 d2 k2 e2 s3 a3 n3 c3 d3 k3 e3 s4 a4 n4 c4 d4 k4 e4,
  v = .agg #[.bool s1, .slice a1 n1 c1, .slice d1 k1 e1, .bool s2, .slice a2 n2 c2, .slice d2 k2 e2, .bool p.lo.isNone, .bool p.hi.isNone, .bool s3, .slice a3 n3 c3, .slice d3 k3 e3, .bool s4, .slice a4 n4 c4, .slice d4 k4 e4] /\
  QC h (.agg #[.bool s1, .slice a1 n1 c1, .slice d1 k1 e1]) (p.lo.getD 0) /\ QC h (.agg #[.bool s2, .slice a2 n2 c2, .slice d2 k2 e2]) (p.hi.getD 0) /\ QC h (.agg #[.bool s3, .slice a3 n3 c3, .slice d3 k3 e3]) p.a /\ QC h (.agg #[.bool s4, .slice a4 n4 c4, .slice d4 k4 e4]) p.b
theorem LinR.mono : Mono LinR := by
  rintro h h' u p hl ⟨s1, a1, n1, c1, d1, k1, e1, s2, a2, n2, c2, d2, k2, e2, s3, a3, n3, c3, d3, k3, e3, s4, a4, n4, c4, d4, k4, e4, rfl, q1, q2, q3, q4⟩
  exact ⟨_, _, _, _, _, _, _, _, _, _, _, _, _, _, _, _, _, _, _, _, _, _, _, _, _, _, _, _, rfl, QC.mono _ _ _ _ hl q1, QC.mono _ _ _ _ hl q2, QC.mono _ _ _ _ hl q3, QC.mono _ _ _ _ hl q4⟩
theorem LinR.elem : Elem LinR 14 := by
  refine ⟨LinR.mono, ?_, ?_, by decide⟩
  · rintro h u p ⟨_, _, _, _, _, _, _, _, _, _, _, _, _, _, _, _, _, _, _, _, _, _, _, _, _, _, _, _, rfl, _⟩; rfl
  · rintro h u p ⟨_, _, _, _, _, _, _, _, _, _, _, _, _, _, _, _, _, _, _, _, _, _, _, _, _, _, _, _, rfl, _⟩ c hc
    simp [cellsL, Value.cells] at hc
    rcases hc with rfl | rfl | rfl | rfl | rfl | rfl | rfl | rfl | rfl | rfl | rfl | rfl | rfl | rfl <;> rfl
theorem LinR.agg : ∀ h u p, LinR h u p -> ∃ cs, u = .agg cs := by
  rintro h u p ⟨_, _, _, _, _, _, _, _, _, _, _, _, _, _, _, _, _, _, _, _, _, _, _, _, _, _, _, _, rfl, _⟩; exact ⟨_, rfl⟩
theorem LinR.of {h : Mem} {p : Pc} {s1 s2 s3 s4 lo hi : Bool} {a1 d1 a2 d2 a3 d3 a4 d4 : Option Addr} {n1 c1 k1 e1 n2 c2 k2 e2 n3 c3 k3 e3 n4 c4 k4 e4 : Nat} (q1 : QC h (.agg #[.bool s1, .slice a1 n1 c1, .slice d1 k1 e1]) (p.lo.getD 0)) (q2 : QC h (.agg #[.bool s2, .slice a2 n2 c2, .slice d2 k2 e2]) (p.hi.getD 0)) (q3 : QC h (.agg #[.bool s3, .slice a3 n3 c3, .slice d3 k3 e3]) p.a) (q4 : QC h (.agg #[.bool s4, .slice a4 n4 c4, .slice d4 k4 e4]) p.b) (hlo : p.lo.isNone = lo) (hhi : p.hi.isNone = hi) :
    LinR h (.agg #[.bool s1, .slice a1 n1 c1, .slice d1 k1 e1, .bool s2, .slice a2 n2 c2, .slice d2 k2 e2, .bool lo, .bool hi, .bool s3, .slice a3 n3 c3, .slice d3 k3 e3, .bool s4, .slice a4 n4 c4, .slice d4 k4 e4]) p := by
  subst hlo hhi
  exact ⟨s1, a1, n1, c1, d1, k1, e1, s2, a2, n2, c2, d2, k2, e2, s3, a3, n3, c3, d3, k3, e3, s4, a4, n4, c4, d4, k4, e4, rfl, q1, q2, q3, q4⟩
theorem LinR.putTo {h : Mem} {u : Value} {o y : Pc} {s : Bool} {a d : Option Addr} {n c k e : Nat} (hu : LinR h u o) (hq : QC h (.agg #[.bool s, .slice a n c, .slice d k e]) (y.hi.getD 0)) (h1 : y.lo = o.lo) (h2 : y.hi.isNone = o.hi.isNone) (h3 : y.a = o.a) (h4 : y.b = o.b) :
    ∃ u', cellsL u' = (cellsL u).take 3 ++ cellsL (.agg #[.bool s, .slice a n c, .slice d k e]) ++ (cellsL u).drop (3 + 3) /\ LinR h u' y := by
  obtain ⟨s1, a1, n1, c1, d1, k1, e1, s2, a2, n2, c2, d2, k2, e2, s3, a3, n3, c3, d3, k3, e3, s4, a4, n4, c4, d4, k4, e4, rfl, q1, q2, q3, q4⟩ := hu
  exact ⟨.agg #[.bool s1, .slice a1 n1 c1, .slice d1 k1 e1, .bool s, .slice a n c, .slice d k e, .bool o.lo.isNone, .bool o.hi.isNone, .bool s3, .slice a3 n3 c3, .slice d3 k3 e3, .bool s4, .slice a4 n4 c4, .slice d4 k4 e4], by simp [cellsL, Value.cells], LinR.of (h1 ▸ q1) hq (h3 ▸ q3) (h4 ▸ q4) (by rw [h1]) h2⟩
theorem LinR.putFrom {h : Mem} {u : Value} {o : Pc} {s : Bool} {a d : Option Addr} {n c k e : Nat} (hu : LinR h u o) (hq : QC h (.agg #[.bool s, .slice a n c, .slice d k e]) (o.lo.getD 0)) :
    ∃ u', cellsL u' = (cellsL u).take 0 ++ cellsL (.agg #[.bool s, .slice a n c, .slice d k e]) ++ (cellsL u).drop (0 + 3) /\ LinR h u' o := by
  obtain ⟨s1, a1, n1, c1, d1, k1, e1, s2, a2, n2, c2, d2, k2, e2, s3, a3, n3, c3, d3, k3, e3, s4, a4, n4, c4, d4, k4, e4, rfl, q1, q2, q3, q4⟩ := hu
  exact ⟨.agg #[.bool s, .slice a n c, .slice d k e, .bool s2, .slice a2 n2 c2, .slice d2 k2 e2, .bool o.lo.isNone, .bool o.hi.isNone, .bool s3, .slice a3 n3 c3, .slice d3 k3 e3, .bool s4, .slice a4 n4 c4, .slice d4 k4 e4], by simp [cellsL, Value.cells], LinR.of hq q2 q3 q4 rfl rfl⟩
theorem LinR.putNo {h : Mem} {u : Value} {o : Pc} {r : Option Rat} (hu : LinR h u { o with hi := some (r.getD 0) }) :
    ∃ u', cellsL u' = (cellsL u).take 7 ++ cellsL (.bool r.isNone) ++ (cellsL u).drop (7 + 1) /\ LinR h u' { o with hi := r } := by
  obtain ⟨s1, a1, n1, c1, d1, k1, e1, s2, a2, n2, c2, d2, k2, e2, s3, a3, n3, c3, d3, k3, e3, s4, a4, n4, c4, d4, k4, e4, rfl, q1, q2, q3, q4⟩ := hu
  exact ⟨.agg #[.bool s1, .slice a1 n1 c1, .slice d1 k1 e1, .bool s2, .slice a2 n2 c2, .slice d2 k2 e2, .bool o.lo.isNone, .bool r.isNone, .bool s3, .slice a3 n3 c3, .slice d3 k3 e3, .bool s4, .slice a4 n4 c4, .slice d4 k4 e4], by simp [cellsL, Value.cells], LinR.of q1 q2 q3 q4 rfl rfl⟩
theorem set_last {α : Type} {l : List α} {q : Nat} (hq : l.length = q) (h : 0 < q) (y : α) : l.set (q - 1) y = l.dropLast ++ [y] := by
  subst hq
  rcases List.eq_nil_or_concat l with rfl | ⟨l', v, rfl⟩
  · simp at h
  · simp
theorem lin_lit {X : Nat -> Bool} {w : World} {e : TypeId} {vs : Array Value} {p : Pc} (hX : HX X w) (h : LinR (mk X w) (.agg vs) p) : OL LinR 14 X w.heap.size e (w.alloc (.cells vs e)) (some ⟨w.heap.size, 0, none⟩) 1 [p] :=
  OL.lit LinR.elem hX (Nat.le_refl _) [.agg vs] [p] _ (by simp [cellsL, Value.cells]) rfl (fun i hi _ => by
    obtain rfl : i = 0 := by simp at hi; exact hi
    exact h) (by simp)
section
variable {α : Type} {R : Mem -> Value -> α -> Prop} {sz : Nat} {X : Nat -> Bool} {base : Nat} {e : TypeId} {w : World} {ao : Option Addr} {cap : Nat} {l : List α}
theorem OL.elemAt (h : OL R sz X base e w ao cap l) (i : Nat) (hi : i < l.length) : ∃ g o u, adr ao (i * sz) = ⟨g, o, none⟩ /\ ob ao g = true /\ R (mk (un X ao) w) u l[i] /\ Hid (∀ Y W', ExtX Y w W' -> Y g = false -> ∀ j v, j < sz -> (cellsL u)[j]? = some v -> W'.cell? ⟨g, o + j, none⟩ = some v) := by
  obtain ⟨b0, o0, hb0⟩ := h.hd (by omega)
  have hg : adr ao (i * sz) = ⟨b0, o0 + i * sz, none⟩ := by rw [hb0]; rfl
  obtain ⟨us, h1, h2, _, h3, h5⟩ := h.cells
  have hi' : i < us.length := by omega
  refine ⟨_, _, us[i], hg, by rw [hb0]; simp [ob], h5 i hi' hi, hid fun Y W' hE hY j v hj hjv => ?_⟩
  have hget := flat_get us i j hi' h2 hj
  rw [hjv] at hget
  have := (h3 _ _ hget).1
  rw [<- adr_add, hg, Addr.add_lit] at this
  exact hE.cellY this hY
theorem OL.own_read {β : Type} {R' : Mem -> Value -> β -> Prop} {w' : World} {u : Value} {y : β} (_h : OL R sz X base e w ao cap l) (hR : Mono R') (hu : R' (mk (un X ao) w) u y) (hE : ExtX (ob ao) w w') : R' (mk (un X ao) w') u y :=
  hR _ _ _ _ (mk_mono hE fun _ hk => un_right hk) hu
end
section
variable {P : Program} {ops : Array Oper} {Q : Exit -> Act -> World -> Prop} {rest : List Oper} {a : Act} {w : World} {d : Option Tmp} {ty : TypeId} {ps : String} {af : Array Edge}
theorem st_storeSub2 {t : TypeId} {x y : Operand} {n b o : Nat} {cs vs : Array Value} {T : TypeId} (hT : StructT P t n) (hx : a.eval x = .pointer (some ⟨b, o, none⟩)) (hy : a.eval y = .agg vs) (hb : Bx w b cs T) (hcs : o + n <= cs.size) (hvs : vs.size = n) (hone : ∀ v ∈ vs.toList, v.oneCell' = true)
    (K : ∀ w', Bx w' b (cs.toList.take o ++ vs.toList ++ cs.toList.drop (o + n)).toArray T -> ExtX (ob (some ⟨b, 0, none⟩)) w w' -> wpList P ops Q rest (a.put d undef) w') :
    wpList P ops Q (⟨d, .store t x y, ty, ps, af, none⟩ :: rest) a w := by
  refine wpList_plain rfl fun K' hK' => ?_
  have := step_storeSub (P := P) (ops := ops) (Q := Q) (a := a) (w := w) (o := ⟨d, .store t x y, ty, ps, af, none⟩) (K := K') (E := True) rfl rfl hT hx hy hb hcs hvs hone (fun w' h1 h2 => hK' _ _ (K w' h1 h2))
  rwa [if_pos (by simp [Region.wanted])] at this
end
end Go.Rep
namespace Go.Lin
open Go.Lim
theorem rawP_len (f : Rat -> Rat) (e : List Rat) (n : Nat) : (rawP f e n).length = n := by simp [rawP]
theorem rawP_more (f : Rat -> Rat) (e : List Rat) (n : Nat) : rawP f e (n + 1) = rawP f e n ++ [pcE f e n] := by simp [rawP, List.range_succ]
theorem rawP_get (f : Rat -> Rat) (e : List Rat) (n i : Nat) (h : i < (rawP f e n).length) : (rawP f e n)[i] = pcE f e i := by simp [rawP]
theorem mstep_hi (out : List Pc) (p : Pc) : ∃ o, (mstep out p).getLast? = some o /\ o.hi = p.hi := by
  unfold mstep
  split
  · rename_i o _
    split
    · exact ⟨{ o with hi := p.hi }, by simp, rfl⟩
    · exact ⟨p, by simp, rfl⟩
  · exact ⟨p, rfl, rfl⟩
theorem mstep_len (out : List Pc) (p : Pc) : (mstep out p).length <= out.length + 1 := by
  unfold mstep
  split
  · split
    · simp
    · simp
  · simp
theorem mrgP_len (f : Rat -> Rat) (e : List Rat) : ∀ n, (mrgP f e n).length <= n
  | 0 => by simp [mrgP, rawP]
  | n + 1 => by
    rw [mrgP_more]
    have := mstep_len (mrgP f e n) (pcE f e n)
    have := mrgP_len f e n
    omega
def GoodP (K : Nat) (p : Pc) : Prop := hq p.a <= K /\ hq p.b <= K /\ hq (p.lo.getD 0) <= K /\ hq (p.hi.getD 0) <= K
theorem mstep_good {K : Nat} {out : List Pc} {p : Pc} (h : ∀ o ∈ out, GoodP K o) (hp : GoodP K p) : ∀ o ∈ mstep out p, GoodP K o := by
  unfold mstep
  split
  · rename_i q hq
    have hql := h q (List.mem_of_getLast? hq)
    split
    · intro o ho
      rw [List.mem_append, List.mem_singleton] at ho
      rcases ho with ho | rfl
      · exact h o ((List.dropLast_sublist out).subset ho)
      · exact ⟨hql.1, hql.2.1, hql.2.2.1, hp.2.2.2⟩
    · intro o ho
      rw [List.mem_append, List.mem_singleton] at ho
      rcases ho with ho | rfl
      · exact h o ho
      · exact hp
  · intro o ho
    obtain rfl := List.mem_singleton.1 ho
    exact hp
theorem mrgP_good {K : Nat} {f : Rat -> Rat} {e : List Rat} : ∀ n, (∀ i, i < n -> GoodP K (pcE f e i)) -> ∀ o ∈ mrgP f e n, GoodP K o
  | 0, _ => by simp [mrgP, rawP]
  | n + 1, h => by
    rw [mrgP_more]
    exact mstep_good (mrgP_good n fun i hi => h i (by omega)) (h n (by omega))
theorem pcE_good {f : Rat -> Rat} {e : List Rat} {B : Nat} (hf : ∀ z, hq z <= B + 10 -> hq (f z) <= 50000000) (he : ∀ q ∈ e, hq q <= B) (hB : B <= 100000) (i : Nat) : GoodP 1000000000 (pcE f e i) := by
  have h1 : hq (1 : Rat) <= 1 := by decide +kernel
  have hfn : ∀ j, hq (fn e j) <= B + 5 := fun j => by
    by_cases hj : j < e.length
    · rw [fn_lt hj]; exact Nat.le_trans (he _ (List.getElem_mem hj)) (by omega)
    · have : fn e j = 0 := by simp [fn, List.getD_eq_getElem?_getD, hj]
      rw [this, hq_zero]; omega
  have hP : hq (ptP e i) <= B + 10 := by
    unfold ptP; split
    · have := hfn 0; omega
    · have := hfn (i - 1); omega
  have hQ : hq (ptQ e i) <= B + 10 := by
    unfold ptQ; split
    · have h2 := hq_sub (fn e 0) 1; have := hfn 0; omega
    · split
      · have h2 := hq_add (fn e (i - 1)) 1; have := hfn (i - 1); omega
      · have := hfn i; omega
  have hb : hq (lineB f (ptP e i) (ptQ e i)) <= 100300000 := by
    unfold lineB
    have g1 := hq_div (f (ptQ e i) - f (ptP e i)) (ptQ e i - ptP e i)
    have g2 := hq_sub (f (ptQ e i)) (f (ptP e i))
    have g3 := hq_sub (ptQ e i) (ptP e i)
    have g4 := hf _ hP
    have g5 := hf _ hQ
    omega
  have ha : hq (lineA f (ptP e i) (ptQ e i)) <= 1000000000 := by
    unfold lineA
    have g1 := hq_sub (f (ptP e i)) (lineB f (ptP e i) (ptQ e i) * ptP e i)
    have g2 := hq_mul (lineB f (ptP e i) (ptQ e i)) (ptP e i)
    have g4 := hf _ hP
    omega
  refine ⟨ha, Nat.le_trans hb (by decide), ?_, ?_⟩
  · show hq ((loE e i).getD 0) <= _
    unfold loE; split
    · rw [Option.getD_none, hq_zero]; decide
    · have := hfn (i - 1); rw [Option.getD_some]; omega
  · show hq ((hiE e i).getD 0) <= _
    unfold hiE; split
    · rw [Option.getD_none, hq_zero]; decide
    · have := hfn i; rw [Option.getD_some]; omega
theorem mrgP_hi {f : Rat -> Rat} {e : List Rat} {n : Nat} (hn : 1 <= n) : ∃ o, (mrgP f e n).getLast? = some o /\ o.hi = hiE e (n - 1) := by
  obtain ⟨k, rfl⟩ : ∃ k, n = k + 1 := ⟨n - 1, by omega⟩
  rw [mrgP_more]
  exact mstep_hi _ _
theorem fits_more {k t : Int} {n : Nat} (h : fitsL k t n) : fitsL k t (n + 1) := ⟨by omega, h.2.imp id fun h2 => by have := h.1; omega⟩
theorem dd_len (s : List Rat) : (dd s).length <= s.length := by
  have h : ∀ (s o : List Rat), (s.foldl ddS o).length <= o.length + s.length := by
    intro s
    induction s with
    | nil => intro o; simp
    | cons a s ih =>
      intro o
      have h1 := ih (ddS o a)
      have h2 : (ddS o a).length <= o.length + 1 := by unfold ddS; split <;> simp
      simp only [List.foldl_cons, List.length_cons] at *
      omega
  simpa [dd] using h s []
theorem take_dd {S : List Rat} {i : Nat} (h : i < S.length) : dd (S.take (i + 1)) = ddS (dd (S.take i)) S[i] := by
  rw [List.take_succ_eq_append_getElem h, dd_snoc]
end Go.Lin
namespace Go.Proofs.YtgimdkjgaemcbaaGreat
open Go.RowKit Go.Rep Go.Lim Go.Lin
theorem cmpQ_zero {x y : Rat} : cmpQ x y = 0 ↔ x = y := by
  unfold cmpQ
  split
  · rename_i h
    constructor
    · intro h2; omega
    · intro h2; subst h2; exact absurd h Rat.lt_irrefl
  · rename_i h
    split
    · rename_i h1
      constructor
      · intro h2; omega
      · intro h2; subst h2; exact absurd h1 Rat.lt_irrefl
    · rename_i h1
      exact ⟨fun _ => Rat.le_antisymm (Rat.not_lt.1 h1) (Rat.not_lt.1 h), fun _ => rfl⟩
theorem eequal (X : Nat -> Bool) (w : World) (u v : Value) (x y : Rat) (hX : HX X w) (hu : QV (mk X w) u x) (hv : QV (mk X w) v y) : Calls Tryz.prog 72 #[u, v] w (BOut w (decide (x = y))) := by
  have hlx := hid hu.hq
  have hly := hid hv.hq
  obtain ⟨s1, a1, n1, c1, d1, k1, e1, rfl⟩ := hu.shape
  obtain ⟨s2, a2, n2, c2, d2, k2, e2, rfl⟩ := hv.shape
  obtain ⟨W, hW, hE, b0, b1, hz⟩ := boxes2 w #[.bool s1, .slice a1 n1 c1, .slice d1 k1 e1] #[.bool s2, .slice a2 n2 c2, .slice d2 k2 e2] 38 38
  have hXW : HX (hidB X w.heap.size 2) W := hX.boxes hz
  have hu1 := QV.mono _ _ _ _ (le_boxes (nb := 2) hE) hu
  have hv1 := QV.mono _ _ _ _ (le_boxes (nb := 2) hE) hv
  obtain ⟨b, hb⟩ : ∃ b, w.heap.size = b := ⟨_, rfl⟩
  have hbw : w.heap.size <= b := by omega
  rw [hb] at b0 b1 hz hXW hu1 hv1
  have hEd : Ext W W.drew := (ExtX.refl W).drew
  have hXd : HX (hidB X b 2) W.drew := hXW
  have hud : QV (mk (hidB X b 2) W.drew) (.agg #[.bool s1, .slice a1 n1 c1, .slice d1 k1 e1]) x := hu1
  have hvd : QV (mk (hidB X b 2) W.drew) (.agg #[.bool s2, .slice a2 n2 c2, .slice d2 k2 e2]) y := hv1
  have k00 := b0.cell 0 rfl
  have k01 := b0.cell 1 rfl
  have k02 := b0.cell 2 rfl
  have k10 := b1.cell 0 rfl
  have k11 := b1.cell 1 rfl
  have k12 := b1.cell 2 rfl
  clear hu hv
  have hd : decide (x = y) = (cmpQ x y == 0) := by rw [Bool.eq_iff_iff]; simp [cmpQ_zero]
  obtain ⟨c, hc⟩ : ∃ c : Int, cmpQ x y = c := ⟨_, rfl⟩
  have hq := qcompare (hidB X b 2) W _ _ x y hXW hu1 hv1
  rw [hd]
  rw [hc] at hq |-
  clear hEd hXd hud hvd hc hd
  go_enter Tryz.func72, Tryz.ntmps72
  go_wp2_with fail
  refine hq.mono ?_
  rintro e w5 ⟨hE5, rfl⟩
  clear k00 k01 k02 k10 k11 k12 hq
  go_wp2_with fail
  go_ret
  exact ⟨hE.trans hE5, rfl⟩
theorem slLin : SliceT Tryz.prog 30 40 14 232 (.agg linZ) := ⟨Tryz.underlying30, by kernel_rfl⟩
theorem one14 {lo hi s1 : Bool} {a1 : Option Addr} {n1 c1 : Nat} {d1 : Option Addr} {k1 e1 : Nat} {s2 : Bool} {a2 : Option Addr} {n2 c2 : Nat} {d2 : Option Addr} {k2 e2 : Nat} : ∀ v ∈ (linV lo hi s1 a1 n1 c1 d1 k1 e1 s2 a2 n2 c2 d2 k2 e2).toList, v.oneCell' = true := by simp [linV, Value.oneCell']
theorem tyLin : TyI Tryz.prog 40 14 := let ⟨_, ti, _, h2, h3⟩ := stLin; ⟨ti, h2, h3⟩
theorem one14g {lo hi s1 s2 s3 s4 : Bool} {a1 d1 a2 d2 a3 d3 a4 d4 : Option Addr} {n1 c1 k1 e1 n2 c2 k2 e2 n3 c3 k3 e3 n4 c4 k4 e4 : Nat} : ∀ v ∈ (#[Value.bool s1, .slice a1 n1 c1, .slice d1 k1 e1, .bool s2, .slice a2 n2 c2, .slice d2 k2 e2, .bool lo, .bool hi, .bool s3, .slice a3 n3 c3, .slice d3 k3 e3, .bool s4, .slice a4 n4 c4, .slice d4 k4 e4] : Array Value).toList, v.oneCell' = true := by simp [Value.oneCell']
theorem tyBoolI : TyI Tryz.prog 4 1 := by
  have h : (Tryz.prog.info? 4).map (fun i => (i.zero, i.size)) = some (some (.bool false), 1) := by kernel_rfl
  cases hi : Tryz.prog.info? 4 with
  | none => rw [hi] at h; cases h
  | some ti => rw [hi] at h; simp at h; exact ⟨ti, hi, h.2⟩
end Go.Proofs.YtgimdkjgaemcbaaGreat
namespace Go.Lin
def okQ (e : Int) (q : Rat) : Rat := if e = 0 then q else 0
end Go.Lin
namespace Go.Proofs.YtgimdkjgaemcbaaGreat
open Go.RowKit Go.Rep Go.Lim Go.Lin
def QEo (X : Nat -> Bool) (w : World) (er : Int) (q : Rat) (e : Ending) (w' : World) : Prop := Ext w w' /\ ∃ u, e = .returned (.tuple #[u, .int .i64 er]) /\ QC (mk X w') u (okQ er q)
set_option maxRecDepth 100000 in
set_option maxHeartbeats 1600000 in
theorem ivaluef (X : Nat -> Bool) (w : World) (u : Value) (k t : Int) (l : List Rat) (B : Nat) (hX : HX X w) (hu : RV (mk X w) u l) (hl : l.length <= 20) (hB : BR B l) (hBB : B <= 1000000000) :
    Calls Tryz.prog 24 #[.agg #[.int .i64 k, .int .i64 t], u] w (QEo X w (chkE k t l.length) (estL k t l)) := by
  obtain ⟨W, hW, hE, b0, b1, hz⟩ := boxes2 w #[.int .i64 k, .int .i64 t] #[.bool false, .slice none 0 0, .slice none 0 0] 28 38
  have hXW : HX (hidB X w.heap.size 2) W := hX.boxes hz
  have hu1 := RV.mono _ _ _ _ (le_boxes (nb := 2) hE) hu
  obtain ⟨b, hb⟩ : ∃ b, w.heap.size = b := ⟨_, rfl⟩
  have hbw : w.heap.size <= b := by omega
  rw [hb] at b0 b1 hz hXW hu1
  obtain ⟨Z, hZ⟩ : ∃ Z, hidB X b 2 = Z := ⟨_, rfl⟩
  rw [hZ] at hXW hu1
  obtain ⟨ao, ca, rfl, hca, hsa⟩ := hu
  have hck := icheck W k t ao l.length ca (by omega)
  have hval := hid fun (h0 : chkE k t l.length = 0) w' (h : Ext W w') => infval Z w' _ k t l B (hXW.ext h) (mkx RV.mono hu1 h) (chkE_zero.1 h0).1 (chkE_zero.1 h0).2.1 hl hB hBB
  obtain ⟨er, her⟩ : ∃ er, chkE k t l.length = er := ⟨_, rfl⟩
  rw [her] at hck hval |-
  have k0 : W.cell? ⟨b, 0, none⟩ = some (.int .i64 k) := b0.cell 0 rfl
  have k1 : W.cell? ⟨b, 1, none⟩ = some (.int .i64 t) := b0.cell 1 rfl
  obtain ⟨n, hn⟩ : ∃ n, l.length = n := ⟨_, rfl⟩
  rw [hn] at hck hval hca |-
  clear her hsa hn
  by_cases h0 : er = 0
  · subst h0
    have hv1 := hid (hval.out rfl)
    go_enter Tryz.func24, Tryz.ntmps24
    go_wp2_with (first
      | (go_at_call 70; refine hck.mono ?_; rintro ee w1 ⟨hE1, rfl⟩; have b01 := b0.ext0 hE1; have k2 : w1.cell? ⟨b, 0, none⟩ = some (.int .i64 k) := b01.cell 0 rfl; have k3 : w1.cell? ⟨b, 1, none⟩ = some (.int .i64 t) := b01.cell 1 rfl)
      | (go_at_call 87; (with_reducible refine (hv1.out w1 hE1).mono ?_); rintro ee w2 ⟨hE2, u2, rfl, hu2⟩; obtain ⟨s5, a5, n5, c5, d5, k5, e5, rfl⟩ := hu2.shape; have b12 := b1.ext0 (hE1.trans hE2))
      | ((with_reducible show wpList _ _ _ (⟨_, .store _ _ _, _, _, _, _⟩ :: _) _ _); refine st_storeBox stRat rfl rfl b12 rfl rfl (one3 _ _ _ _ _ _ _) ?_; intro w3 r1 r2))
    rw [<- hZ] at hu2
    have h3 := QC.mono _ _ _ _ le_unbox (QC.mono _ _ _ _ (le_store r2 (by omega) (by omega)) hu2)
    exact bodyPost_ret (results_box2 rfl rfl stRat r1 rfl) rfl ⟨ExtX.box (hE.trans (hE1.trans hE2)) r2 (by omega), _, rfl, by unfold okQ; rw [if_pos rfl]; exact h3⟩
  · have h0' : (er != (0 : Int)) = true := bneT h0
    have h0z : okQ er (estL k t l) = 0 := by unfold okQ; rw [if_neg h0]
    go_enter Tryz.func24, Tryz.ntmps24
    go_wp2_with (first
      | (go_at_call 70; refine hck.mono ?_; rintro ee w1 ⟨hE1, rfl⟩; have b12 := b1.ext0 hE1)
      | ((with_reducible show wpList _ _ _ (⟨_, .store _ _ _, _, _, _, _⟩ :: _) _ _); refine st_storeBox stRat rfl rfl b12 rfl rfl (one3 _ _ _ _ _ _ _) ?_; intro w3 r1 r2))
    exact bodyPost_ret (results_box2 rfl rfl stRat r1 rfl) rfl ⟨ExtX.box (hE.trans hE1) r2 (by omega), _, rfl, by rw [h0z]; exact QC.zero _⟩
end Go.Proofs.YtgimdkjgaemcbaaGreat
namespace Go.Proofs.YtgimdkjgaemcbaaGreat
open Go.RowKit Go.Rep Go.Lim Go.Lin
def senL (k t : Int) (l : List Rat) (z : Rat) : Rat := ((((l.length + 1 : Nat) : Int)) : Rat) * (estL k t (l ++ [z]) - estL k t l)
set_option maxRecDepth 100000 in
set_option maxHeartbeats 1600000 in
theorem isens (X : Nat -> Bool) (w : World) (u v : Value) (k t : Int) (l : List Rat) (z : Rat) (B : Nat) (hX : HX X w) (hu : RV (mk X w) u l) (hv : QV (mk X w) v z) (hk : knownL k t) (hf : fitsL k t l.length) (hl : l.length <= 19) (hB : BR B l) (hBz : hq z <= B) (hBB : B <= 100000) :
    Calls Tryz.prog 83 #[.agg #[.int .i64 k, .int .i64 t], u, v] w (QEo X w 0 (senL k t l z)) := by
  obtain ⟨s1, a1, n1, c1, d1, k1, e1, rfl⟩ := hv.shape
  obtain ⟨W, hW, hE, b0, b1, b2, hz⟩ := boxes3 w #[.int .i64 k, .int .i64 t] #[.bool s1, .slice a1 n1 c1, .slice d1 k1 e1] #[.bool false, .slice none 0 0, .slice none 0 0] 28 38 38
  have hXW : HX (hidB X w.heap.size 3) W := hX.boxes hz
  have hu1 := RV.mono _ _ _ _ (le_boxes (nb := 3) hE) hu
  have hv1 := QV.mono _ _ _ _ (le_boxes (nb := 3) hE) hv
  obtain ⟨b, hb⟩ : ∃ b, w.heap.size = b := ⟨_, rfl⟩
  have hbw : w.heap.size <= b := by omega
  rw [hb] at b0 b1 b2 hz hXW hu1 hv1
  obtain ⟨Z, hZ⟩ : ∃ Z, hidB X b 3 = Z := ⟨_, rfl⟩
  rw [hZ] at hXW hu1 hv1
  obtain ⟨ao, ca, rfl, hca, hsa⟩ := hu
  have hck := icheck W k t ao l.length ca (by omega)
  rw [chkE_zero.2 ⟨hk, hf, by omega⟩] at hck
  have hB1 : BR (B + 10) (l ++ [z]) := fun q hq => by
    rw [List.mem_append, List.mem_singleton] at hq
    rcases hq with h | rfl
    · exact Nat.le_trans (hB q h) (by omega)
    · omega
  have hq1 := hid (est_hq (k := k) (t := t) hB1 (by simp; omega) (by omega))
  have hq2 := hid (est_hq (k := k) (t := t) hB (by omega) (by omega))
  have hwi := hid fun M w' u' vz (hM : HX M w') (h1 : RV (mk M w') u' l) (h2 : QV (mk M w') vz z) => iwith M w' u' vz l z hM h1 h2 (by omega)
  have hva := hid fun M w' u' (hM : HX M w') (h1 : RV (mk M w') u' (l ++ [z])) => infval M w' u' k t (l ++ [z]) (B + 10) hM h1 hk (by simpa using fits_more hf) (by simp; omega) hB1 (by omega)
  have hvb := hid fun M w' u' (hM : HX M w') (h1 : RV (mk M w') u' l) => infval M w' u' k t l B hM h1 hk hf (by omega) hB (by omega)
  have hse : Hid (((((l.length + 1 : Nat) : Int)) : Rat) * (estL k t (l ++ [z]) - estL k t l) = senL k t l z) := hid rfl
  obtain ⟨E1, hE1⟩ : ∃ q, estL k t (l ++ [z]) = q := ⟨_, rfl⟩
  obtain ⟨E2, hE2⟩ : ∃ q, estL k t l = q := ⟨_, rfl⟩
  obtain ⟨E3, hE3⟩ : ∃ q, senL k t l z = q := ⟨_, rfl⟩
  rw [hE1, hE2, hE3] at hse
  rw [hE3]
  rw [hE1] at hq1 hva
  rw [hE2] at hq2 hvb
  have hqd : Hid (hq (E1 - E2) <= 68719476736) := hid (by have := hq_sub E1 E2; have := hq1.out; have := hq2.out; omega)
  obtain ⟨n, hn⟩ : ∃ n, l.length = n := ⟨_, rfl⟩
  rw [hn] at hck hca hl hu1 hse |-
  have hqn : Hid (hq ((((n + 1 : Nat) : Int)) : Rat) <= 68719476736) := hid (Nat.le_trans (hq_int _ 1 (by
    rw [Int.natAbs_natCast, lg_one_iff (by omega) (by omega)]; exact Nat.le_refl _) (Nat.le_refl _)) (by decide))
  have hn64 : ((n : Int) == 64) = false := beqF (by omega)
  have hu2 := hid hu1
  have hv2 := hid hv1
  have bb0 := hid b0
  have k0 : W.cell? ⟨b, 0, none⟩ = some (.int .i64 k) := b0.cell 0 rfl
  have k1' : W.cell? ⟨b, 1, none⟩ = some (.int .i64 t) := b0.cell 1 rfl
  clear hE1 hE2 hE3 hB hB1 hBz hk hf hsa hn hv
  go_enter Tryz.func83, Tryz.ntmps83
  go_upto_region 6 with (first
    | (go_at_call 70; refine hck.mono ?_; rintro ee wk ⟨hE1, rfl⟩))
  have hXk := hXW.ext hE1
  have hu3 := hid (mkx RV.mono hu2.out hE1)
  have hv3 := hid (mkx QV.mono hv2.out hE1)
  have hEd : Ext wk wk.drew := (ExtX.refl wk).drew
  have hXd := hXk.ext hEd
  have c0 := b0.ext0 (hE1.trans hEd)
  have c1' := b1.ext0 (hE1.trans hEd)
  have hud := hid (mkx RV.mono hu3.out hEd)
  have hvd := hid (mkx QV.mono hv3.out hEd)
  have hwS : wk.drew.cell? ⟨b, 0, none⟩ = some (.int .i64 k) /\ wk.drew.cell? ⟨b, 1, none⟩ = some (.int .i64 t) /\ wk.drew.cell? ⟨b + 1, 0, none⟩ = some (.bool s1) /\ wk.drew.cell? ⟨b + 1, 1, none⟩ = some (.slice a1 n1 c1) /\ wk.drew.cell? ⟨b + 1, 2, none⟩ = some (.slice d1 k1 e1) := ⟨c0.cell 0 rfl, c0.cell 1 rfl, c1'.cell 0 rfl, c1'.cell 1 rfl, c1'.cell 2 rfl⟩
  clear k0 k1' hck
  (try simp only [Act.put])
  refine wp_region_K 10 (fun w' => w'.cell? ⟨b, 0, none⟩ = some (.int .i64 k) /\ w'.cell? ⟨b, 1, none⟩ = some (.int .i64 t) /\ w'.cell? ⟨b + 1, 0, none⟩ = some (.bool s1) /\ w'.cell? ⟨b + 1, 1, none⟩ = some (.slice a1 n1 c1) /\ w'.cell? ⟨b + 1, 2, none⟩ = some (.slice d1 k1 e1)) (by kernel_rfl) (by kernel_rfl) hwS (fun hHeld hOnce => ?_)
  refine kt 0 hOnce ?_
  refine kt 1 hOnce ?_
  refine kt 2 hOnce ?_
  refine kt 5 hOnce ?_
  refine kt 6 hOnce ?_
  refine chain_start [3, 4, 7, 8] [⟨9, 9, 38, #[.bool false, .slice none 0 0, .slice none 0 0]⟩] Z 1 hXd hHeld (fun _ _ h hE => ⟨hE.cell h.1, hE.cell h.2.1, hE.cell h.2.2.1, hE.cell h.2.2.2.1, hE.cell h.2.2.2.2⟩) ?_
  refine good_step (fun M1 w1 ps1 hX1 hZ1 hE1 hF1 hS1 K hK => ?_)
  simp only [setA, Act.put, List.setIfInBounds_toArray, List.set_cons_zero, List.set_cons_succ]
  go_simp
  (with_reducible refine (hwi.out M1 w1 _ _ hX1 (upx RV.mono hF1 hud.out) (upx QV.mono hF1 hvd.out)).mono ?_); rintro ee w' ⟨hE', u1, rfl, hv1⟩
  refine hK.out _ _ _ _ _ RV.mono hE' hv1 (by simp only [setA, Act.put, List.setIfInBounds_toArray, List.set_cons_zero, List.set_cons_succ]) ?_
  clear hK K hX1 hZ1 hE1 hF1 hS1
  refine good_step (fun M2 w2 ps2 hX2 hZ2 hE2 hF2 hS2 K hK => ?_)
  simp only [setA, Act.put, List.setIfInBounds_toArray, List.set_cons_zero, List.set_cons_succ]
  go_simp
  (with_reducible refine (hva.out M2 w2 _ hX2 hF2.2).mono ?_); rintro ee w' ⟨hE', u2, rfl, hv2⟩
  refine hK.out _ _ _ _ _ QC.mono hE' hv2 (by simp only [setA, Act.put, List.setIfInBounds_toArray, List.set_cons_zero, List.set_cons_succ]) ?_
  clear hK K hX2 hZ2 hE2 hF2 hS2
  refine good_step (fun M3 w3 ps3 hX3 hZ3 hE3 hF3 hS3 K hK => ?_)
  simp only [setA, Act.put, List.setIfInBounds_toArray, List.set_cons_zero, List.set_cons_succ]
  go_simp
  (with_reducible refine (hvb.out M3 w3 _ hX3 (upx RV.mono hF3.1.1 hud.out)).mono ?_); rintro ee w' ⟨hE', u3, rfl, hv3⟩
  refine hK.out _ _ _ _ _ QC.mono hE' hv3 (by simp only [setA, Act.put, List.setIfInBounds_toArray, List.set_cons_zero, List.set_cons_succ]) ?_
  clear hK K hX3 hZ3 hE3 hF3 hS3
  refine good_step (fun M4 w4 ps4 hX4 hZ4 hE4 hF4 hS4 K hK => ?_)
  simp only [setA, Act.put, List.setIfInBounds_toArray, List.set_cons_zero, List.set_cons_succ]
  go_simp
  (with_reducible refine (qsub M4 w4 _ _ _ _ hX4 (hF4.1.2.qv (Nat.le_trans hq1.out (by decide))) (hF4.2.qv (Nat.le_trans hq2.out (by decide)))).mono ?_); rintro ee w' ⟨hE', u4, rfl, hv4⟩; obtain ⟨s4, a4, n4, c4, d4, k4, e4, rfl⟩ := hv4.shape
  refine hK.out _ _ _ _ _ QC.mono hE' hv4 (by simp only [setA, Act.put, List.setIfInBounds_toArray, List.set_cons_zero, List.set_cons_succ]) ?_
  clear hK K hX4 hZ4 hE4 hF4 hS4
  refine chg_end (fun M w5 gs hX5 hZ5 hE5 hF5 hS5 hb5 hn5 => ?_)
  simp only [setA, ptr, Act.put, List.setIfInBounds_toArray, List.set_cons_zero, List.set_cons_succ]
  obtain ⟨ga, hga⟩ : ∃ g, gs 0 = g := ⟨_, rfl⟩
  obtain ⟨x5, m5, l5⟩ := hb5 0 _ rfl
  rw [hga] at x5 m5 l5
  simp only [hga]
  refine kl 10 (fun K hK => ?_)
  (refine step_storeBox rfl rfl stRat rfl rfl x5 rfl rfl (one3 _ _ _ _ _ _ _) ?_; intro w6 z6 y6)
  refine hK.out _ _ ?_
  clear hK K
  (try simp only [Act.put])
  have hl6 := mk_mono (X := M) y6 (fun k hk => by
    have : ga = k := by simpa [ob] using hk
    rw [<- this]; exact m5)
  have q6 := (QC.mono _ _ _ _ hl6 hF5.2).qv hqd.out
  have hX6 : HX M w6 := hX5.ext y6
  have hE16 : Ext wk w6 := ExtX.box (hEd.trans hE5) y6 l5
  have b26 := b2.ext0 (hE1.trans hE16)
  have hMM := hid hZ5
  have hgb : b + 1 + 1 < ga := by
    have h1 := (b2.ext0 (hE1.trans hEd)).lt
    omega
  have e1w : IntKind.i64.wrap ((n : Int) + 1) = (n : Int) + 1 := IntWalk.i64_in _ (by omega)
  have hse2 : Hid (((((n : Int) + 1 : Int)) : Rat) * (E1 - E2) = E3) := hid (by rw [<- hse.out, show ((n + 1 : Nat) : Int) = (n : Int) + 1 by omega])
  have hqn2 : Hid (hq ((((n : Int) + 1 : Int)) : Rat) <= 68719476736) := hid (by have := hqn.out; rwa [show ((n + 1 : Nat) : Int) = (n : Int) + 1 by omega] at this)
  clear hF5 hS5 hb5 hn5 hX5 hZ5 hE5 l5 m5 x5 y6 hl6 hga hHeld hOnce hwS c0 c1' hud hvd hwi hva hvb hq1 hq2 bb0 hXk hXd hXW
  have hEd6 : Ext w6 w6.drew := (ExtX.refl w6).drew
  have hXd6 := hX6.ext hEd6
  have hq6d := mkx QV.mono q6 hEd6
  have hwS : w6.drew.cell? ⟨ga, 0, none⟩ = some (.bool s4) /\ w6.drew.cell? ⟨ga, 1, none⟩ = some (.slice a4 n4 c4) /\ w6.drew.cell? ⟨ga, 2, none⟩ = some (.slice d4 k4 e4) := ⟨hEd6.cell (z6.cell 0 rfl), hEd6.cell (z6.cell 1 rfl), hEd6.cell (z6.cell 2 rfl)⟩
  go_upto_region 7 with fail
  (try simp only [Act.put])
  refine wp_region_K 7 (fun w' => w'.cell? ⟨ga, 0, none⟩ = some (.bool s4) /\ w'.cell? ⟨ga, 1, none⟩ = some (.slice a4 n4 c4) /\ w'.cell? ⟨ga, 2, none⟩ = some (.slice d4 k4 e4)) (by kernel_rfl) (by kernel_rfl) hwS (fun hHeld hOnce => ?_)
  refine kt 0 hOnce ?_
  refine kt 1 hOnce ?_
  refine kt 2 hOnce ?_
  refine kt 4 hOnce ?_
  refine ks 3 (fun K hK => ?_)
  go_simp
  ((with_reducible refine (qfrom M w6.drew ((n : Int) + 1) hXd6 (by omega) (by omega)).mono ?_); rintro ee wa ⟨ga1, ua, rfl, hua⟩; obtain ⟨s5, a5, n5, c5, d5, k5, e5, rfl⟩ := hua.shape)
  refine kcn hK ⟨ga1.cell hHeld.1, ga1.cell hHeld.2.1, ga1.cell hHeld.2.2⟩ (fun hHeld => ?_)
  clear hK K
  refine ks 5 (fun K hK => ?_)
  go_simp
  ((with_reducible refine (qmul M wa _ _ _ _ (hXd6.ext ga1) (hua.qv hqn2.out) (mkx QV.mono hq6d ga1)).mono ?_); rintro ee wb ⟨gb1, ub, rfl, hub⟩; obtain ⟨s7, a7, n7, c7, d7, k7, e7, rfl⟩ := hub.shape)
  refine kcn hK ⟨gb1.cell hHeld.1, gb1.cell hHeld.2.1, gb1.cell hHeld.2.2⟩ (fun hHeld => ?_)
  clear hK K
  have gab := hEd6.trans (ga1.trans gb1)
  have b2b := b26.ext0 gab
  have hobg : ob (some ⟨b + 1 + 1, 0, none⟩) ga = false := ob_other (by omega)
  refine ks 6 (fun K hK => ?_)
  (refine step_storeBox rfl rfl stRat rfl rfl b2b rfl rfl (one3 _ _ _ _ _ _ _) ?_; intro wf xf yf)
  refine kcn hK ⟨yf.cellY hHeld.1 hobg, yf.cellY hHeld.2.1 hobg, yf.cellY hHeld.2.2 hobg⟩ (fun hHeld => ?_)
  clear hK K
  refine kl 7 (fun K hK => ?_)
  go_simp
  refine hK.out _ _ ?_
  clear hK K
  have hl3 : Le (mk M wb) (mk X wf) := (mk_mono yf (fun k hk => hMM.out k (by
    have h1 : b + 1 + 1 = k := by simpa [ob] using hk
    rw [<- hZ, <- h1]; exact hidB_in (by omega) (by omega)))).trans (mk_sub fun k _ hk => hMM.out k (by rw [<- hZ]; exact hidB_X hk))
  have hq3 := QC.mono _ _ _ _ hl3 hub
  rw [hse2.out] at hq3
  go_wp2_with fail
  exact bodyPost_ret (results_box2 rfl rfl stRat xf rfl) rfl ⟨ExtX.box (hE.trans (hE1.trans (hE16.trans gab))) yf (by omega), _, rfl, hq3⟩
end Go.Proofs.YtgimdkjgaemcbaaGreat
