/- Parts of a proof: each theorem states what it proves, and its conditions. -/
import Derived.Test.YtgimdkjgaemcbaaGreatFlL
import Derived.ChangeSame
namespace Go.Lin
theorem lt1 {P : Nat -> Prop} (h0 : P 0) (i : Nat) (hi : i < 1) : P i := by
  match i, hi with
  | 0, _ => exact h0
end Go.Lin
namespace Go.Proofs.YtgimdkjgaemcbaaGreat
open Go.RowKit Go.Rep
theorem infInt : (Tryz.prog.info? 3).map (fun i => (i.zero, i.size, i.bytes)) = some (some (.int .i64 0), 1, 8) := by kernel_rfl
theorem tyInt : TyI Tryz.prog 3 1 := let ⟨i, h, _, h2, _⟩ := info_parts infInt; ⟨i, h, h2⟩
end Go.Proofs.YtgimdkjgaemcbaaGreat
namespace Go.Rep
open Go.RowKit
section
variable {P : Program} {ops : Array Oper} {Q : Exit -> Act -> World -> Prop} {rest : List Oper} {a : Act} {w : World}
variable {d : Option Tmp} {ty : TypeId} {ps : String} {af : Array Edge}
theorem st_loadBox {t : TypeId} {x : Operand} {n b : Nat} {cs : Array Value} {T : TypeId} (hT : StructT P t n) (hx : a.eval x = .pointer (some ⟨b, 0, none⟩)) (hb : Bx w b cs T) (hcs : cs.size = n)
    (K : wpList P ops Q rest (a.put d (.agg cs)) w) :
    wpList P ops Q (⟨d, .load t x, ty, ps, af, none⟩ :: rest) a w := by
  refine wpList_plain rfl fun K' hK' => ?_
  have hl := run_loadBox (P := P) hT hb hcs
  unfold Oper.wp
  simp [execOp, hx, Instr.loadAt, Instr.sureAddr, hl, Result.andThen]
  exact hK' _ _ K
end
end Go.Rep
namespace Go.Proofs.YtgimdkjgaemcbaaGreat
open Go.RowKit Go.Rep Go.Lim
theorem count_any (X : Nat -> Bool) (tb : Nat) (n : Int) (w : World) (ht : TapeR X tb w) (hX : ∀ k, X k = true -> k < w.heap.size) (h1 : -1000 <= n) (hn : n <= 1099511627776) :
    Calls Tryz.prog 34 #[.pointer (some ⟨tb, 0, none⟩), .int .i64 n] w (TIntOut X tb w (min (-1) n) (max 1 (n + 1))) := by
  go_enter Tryz.func34, Tryz.ntmps34
  go_wp2_with fail
  refine (next_any X tb 4 _ ht (by omega)).mono ?_
  rintro e w1 ⟨hE, ht1, m, rfl, hm⟩
  have hX1 : ∀ k, X k = true -> k < w1.heap.size := fun k hk => Nat.lt_of_lt_of_le (hX k hk) hE.size
  by_cases h2 : m < 3
  · by_cases h3 : 0 < n
    · go_wp2_with fail
      refine (next_any X tb n _ ht1 hn).mono ?_
      rintro e w2 ⟨hE2, ht2, m2, rfl, hm2⟩
      go_wp2_with fail
      go_ret
      exact ⟨hE.trans hE2, ht2, _, rfl, by omega, by omega⟩
    · go_wp2_with fail
      refine (lit_pick X tb [0, n, n + 1, -1, 1] _ _ _ w1 (min (-1) n) (max 1 (n + 1)) ht1 hX1 rfl rfl (by simp) (by simp) (hid (by simp; omega))).mono ?_
      rintro e w2 ⟨hE2, ht2, m2, rfl, hm2, hm3⟩
      go_wp2_with fail
      go_ret
      exact ⟨hE.trans hE2, ht2, _, rfl, hm2, hm3⟩
  · go_wp2_with fail
    refine (lit_pick X tb [0, n, n + 1, -1, 1] _ _ _ w1 (min (-1) n) (max 1 (n + 1)) ht1 hX1 rfl rfl (by simp) (by simp) (hid (by simp; omega))).mono ?_
    rintro e w2 ⟨hE2, ht2, m2, rfl, hm2, hm3⟩
    go_wp2_with fail
    go_ret
    exact ⟨hE.trans hE2, ht2, _, rfl, hm2, hm3⟩
end Go.Proofs.YtgimdkjgaemcbaaGreat
namespace Go.Rep
open Go.RowKit Go.Lim
section
variable {P : Program} {ops : Array Oper} {Q : Exit -> Act -> World -> Prop} {rest : List Oper} {a : Act} {w : World}
variable {d : Option Tmp} {ty : TypeId} {ps : String} {af : Array Edge}
theorem st_storeCell {t : TypeId} {x y : Operand} {b i : Nat} {cs : Array Value} {v : Value} {T : TypeId} (hT : TyI P t 1) (hx : a.eval x = .pointer (some ⟨b, i, none⟩)) (hy : a.eval y = v) (hv : v.cells = #[v]) (hone : v.oneCell' = true) (hb : Bx w b cs T) (hi : i < cs.size)
    (K : ∀ w', Bx w' b (cs.set i v) T -> ExtX (ob (some ⟨b, 0, none⟩)) w w' -> wpList P ops Q rest (a.put d undef) w') :
    wpList P ops Q (⟨d, .store t x y, ty, ps, af, none⟩ :: rest) a w := by
  refine wpList_plain rfl fun K' hK' => ?_
  obtain ⟨ti, ht, hts⟩ := hT
  obtain ⟨h1, h2⟩ := setCell_block hb v hi
  have hc := hb.cell i (u := cs[i]) (by simp [hi])
  have hf := hb.frozen i
  unfold Oper.wp
  subst hy
  have hr := run_store P w ⟨b, i, none⟩ (a.eval y) .plain hone
  rw [hc, hf] at hr
  simp only [Bool.false_eq_true, if_false] at hr
  simp [execOp, hx, Instr.storeAt, Instr.sureAddr, storeVar, sizeOf, typeInfo, ht, hts, hv, Result.andThen, storeCells, Addr.add_zero', hr]
  exact hK' _ _ (K _ h1 h2)
theorem un_comm (X : Nat -> Bool) (a b : Option Addr) : un (un X a) b = un (un X b) a := by
  funext k; simp only [un]; cases X k <;> cases ob a k <;> cases ob b k <;> rfl
theorem hx_un {X : Nat -> Bool} {w : World} {ao : Option Addr} (hX : HX X w) (h : ∀ k, ob ao k = true -> k < w.heap.size) : HX (un X ao) w := fun k hk => by
  by_cases hx : X k = true
  · exact hX k hx
  · exact h k (by simpa [un, hx] using hk)
end
end Go.Rep
namespace Go.Proofs.YtgimdkjgaemcbaaGreat
open Go.RowKit Go.Rep
end Go.Proofs.YtgimdkjgaemcbaaGreat
namespace Go.Rep
open Go.RowKit Go.Lim
end Go.Rep
namespace Go.Lin
open Go.Lim Go.Rep
end Go.Lin
namespace Go.Proofs.YtgimdkjgaemcbaaGreat
open Go.RowKit Go.Rep Go.Lim Go.Lin
theorem stLoc : StructT Tryz.prog 28 2 := by
  have h : (Tryz.prog.info? 28).map (fun i => (i.zero, i.size, i.bytes)) = some (some (.agg #[.int .i64 0, .int .i64 0]), 2, 16) := by kernel_rfl
  obtain ⟨ti, h1, _, h2, _⟩ := info_parts h
  exact ⟨_, ti, Tryz.underlying28, h1, h2⟩
end Go.Proofs.YtgimdkjgaemcbaaGreat
namespace Go.Proofs.YtgimdkjgaemcbaaGreat
open Go.RowKit Go.Rep Go.Lim Go.Lin
set_option maxRecDepth 100000 in
set_option maxHeartbeats 1600000 in
theorem ris (w : World) (k t : Int) :
    Calls Tryz.prog 98 #[.agg #[.int .i64 k, .int .i64 t]] w (fun e w' => Ext w w' /\ e = .returned (.bool (knownB k t))) := by
  obtain ⟨W, hW, hE, b0, hz⟩ := boxes1 w #[.int .i64 k, .int .i64 t] 28
  obtain ⟨b, hb⟩ : ∃ b, w.heap.size = b := ⟨_, rfl⟩
  rw [hb] at b0 hz
  have k0 : W.cell? ⟨b, 0, none⟩ = some (.int .i64 k) := b0.cell 0 rfl
  have k1 : W.cell? ⟨b, 1, none⟩ = some (.int .i64 t) := b0.cell 1 rfl
  by_cases h1 : 1 <= k
  · by_cases h2 : k <= 5
    · by_cases h3 : 0 <= t
      · by_cases h4 : t = 0
        · subst h4
          have e : knownB k 0 = true := knownB_iff.2 ⟨h1, h2, h3, .inr rfl⟩
          rw [e]
          go_enter Tryz.func98, Tryz.ntmps98
          go_wp2_with fail
          go_ret
          exact ⟨hE, rfl⟩
        · have hb4 : (t == 0) = false := by simpa using h4
          by_cases h5 : k = 5
          · subst h5
            have e : knownB 5 t = true := knownB_iff.2 ⟨h1, h2, h3, .inl rfl⟩
            rw [e]
            go_enter Tryz.func98, Tryz.ntmps98
            go_wp2_with fail
            go_ret
            exact ⟨hE, rfl⟩
          · have e : knownB k t = false := by rw [Bool.eq_false_iff]; intro h; obtain ⟨_, _, _, h | h⟩ := knownB_iff.1 h <;> omega
            have hb5 : (k == 5) = false := by simpa using h5
            rw [e]
            go_enter Tryz.func98, Tryz.ntmps98
            go_wp2_with fail
            go_ret
            exact ⟨hE, rfl⟩
      · have e : knownB k t = false := by rw [Bool.eq_false_iff]; intro h; obtain ⟨_, _, h, _⟩ := knownB_iff.1 h; omega
        rw [e]
        go_enter Tryz.func98, Tryz.ntmps98
        go_wp2_with fail
        go_ret
        exact ⟨hE, rfl⟩
    · have e : knownB k t = false := by rw [Bool.eq_false_iff]; intro h; obtain ⟨_, h, _⟩ := knownB_iff.1 h; omega
      rw [e]
      go_enter Tryz.func98, Tryz.ntmps98
      go_wp2_with fail
      go_ret
      exact ⟨hE, rfl⟩
  · have e : knownB k t = false := by rw [Bool.eq_false_iff]; intro h; obtain ⟨h, _⟩ := knownB_iff.1 h; omega
    rw [e]
    go_enter Tryz.func98, Tryz.ntmps98
    go_wp2_with fail
    go_ret
    exact ⟨hE, rfl⟩
set_option maxRecDepth 100000 in
set_option maxHeartbeats 1600000 in
theorem rfits34 (w : World) (k t n : Int) (hn1 : -9223372036854775808 <= n) (hn2 : n <= 9223372036854775807) :
    Calls Tryz.prog 95 #[.agg #[.int .i64 k, .int .i64 t], .int .i64 n] w (fun e w' => Ext w w' /\ e = .returned (.bool (fitsB k t n))) := by
  obtain ⟨W, hW, hE, b0, hz⟩ := boxes1 w #[.int .i64 k, .int .i64 t] 28
  obtain ⟨b, hb⟩ : ∃ b, w.heap.size = b := ⟨_, rfl⟩
  rw [hb] at b0 hz
  have k0 : W.cell? ⟨b, 0, none⟩ = some (.int .i64 k) := b0.cell 0 rfl
  have k1 : W.cell? ⟨b, 1, none⟩ = some (.int .i64 t) := b0.cell 1 rfl
  by_cases h1 : 1 <= n
  · have ew : IntKind.i64.wrap (n - 1) = n - 1 := IntWalk.i64_in _ (by omega)
    have eq : Int.tdiv (n - 1) 2 = (n - 1) / 2 := Int.tdiv_eq_ediv_of_nonneg (by omega)
    by_cases h2 : k = 5
    · subst h2
      by_cases h3 : t <= (n - 1) / 2
      · have e : fitsB 5 t n = true := by simp [fitsB, h1, h3]
        rw [e]
        go_enter Tryz.func95, Tryz.ntmps95
        go_wp2_with fail
        go_ret
        exact ⟨hE, rfl⟩
      · have e : fitsB 5 t n = false := by simp [fitsB, h1, h3]
        rw [e]
        go_enter Tryz.func95, Tryz.ntmps95
        go_wp2_with fail
        go_ret
        exact ⟨hE, rfl⟩
    · have h2b : (k != (5 : Int)) = true := by simpa using h2
      have e : fitsB k t n = true := by simp [fitsB, h1, h2]
      rw [e]
      go_enter Tryz.func95, Tryz.ntmps95
      go_wp2_with fail
      go_ret
      exact ⟨hE, rfl⟩
  · have e : fitsB k t n = false := by simp [fitsB]; omega
    rw [e]
    go_enter Tryz.func95, Tryz.ntmps95
    go_wp2_with fail
    go_ret
    exact ⟨hE, rfl⟩
set_option maxRecDepth 100000 in
set_option maxHeartbeats 1600000 in
theorem rparts34 (w : World) (k t : Int) (n : Nat) (hn : n <= 1000000) (hk : knownL k t) (hf : fitsL k t n) :
    Calls Tryz.prog 99 #[.agg #[.int .i64 k, .int .i64 t], .int .i64 (n : Int)] w (fun e w' => Ext w w' /\ e = .returned (.tuple #[.int .i64 (rkA k t n : Int), .int .i64 (rkB k t n : Int)])) := by
  obtain ⟨W, hW, hE, b0, hz⟩ := boxes1 w #[.int .i64 k, .int .i64 t] 28
  obtain ⟨b, hb⟩ : ∃ b, w.heap.size = b := ⟨_, rfl⟩
  rw [hb] at b0 hz
  have k0 : W.cell? ⟨b, 0, none⟩ = some (.int .i64 k) := b0.cell 0 rfl
  have k1 : W.cell? ⟨b, 1, none⟩ = some (.int .i64 t) := b0.cell 1 rfl
  obtain ⟨h1, h2, h3, h4⟩ := hk
  obtain ⟨g1, g2⟩ := hf
  have ew : IntKind.i64.wrap ((n : Int) + 1) = (n : Int) + 1 := IntWalk.i64_in _ (by omega)
  have eq1 : Int.tdiv ((n : Int) + 1) 2 = ((n : Int) + 1) / 2 := Int.tdiv_eq_ediv_of_nonneg (by omega)
  have eq2 : Int.tdiv (n : Int) 2 = (n : Int) / 2 := Int.tdiv_eq_ediv_of_nonneg (by omega)
  have ew1 : IntKind.i64.wrap (((n : Int) + 1) / 2 - 1) = ((n : Int) + 1) / 2 - 1 := IntWalk.i64_in _ (by omega)
  have ew2 : IntKind.i64.wrap ((n : Int) / 2 + 1) = (n : Int) / 2 + 1 := IntWalk.i64_in _ (by omega)
  have ew3 : IntKind.i64.wrap (((n : Int) + 1) / 2 - 1 + 1) = ((n : Int) + 1) / 2 - 1 + 1 := IntWalk.i64_in _ (by omega)
  have hc : k = 1 \/ k = 2 \/ k = 3 \/ k = 4 \/ k = 5 := by omega
  rcases hc with rfl | rfl | rfl | rfl | rfl
  · go_enter Tryz.func99, Tryz.ntmps99
    go_wp2_with fail
    go_ret2
    exact ⟨hE, by simp [rkA, rkB]⟩
  · go_enter Tryz.func99, Tryz.ntmps99
    go_wp2_with fail
    go_ret2
    exact ⟨hE, by simp [rkA, rkB]; omega⟩
  · go_enter Tryz.func99, Tryz.ntmps99
    go_wp2_with fail
    go_ret2
    exact ⟨hE, by simp [rkA, rkB]⟩
  · go_enter Tryz.func99, Tryz.ntmps99
    go_wp2_with fail
    go_ret2
    exact ⟨hE, by simp [rkA, rkB]; omega⟩
  · have ew4 : IntKind.i64.wrap ((n : Int) - t) = (n : Int) - t := IntWalk.i64_in _ (by omega)
    have hEd : Ext w W.drew := hE.trans (ExtX.refl W).drew
    go_enter Tryz.func99, Tryz.ntmps99
    go_upto_region 11 with fail
    go_region
    all_goals
      go_wp2_with fail
      go_ret2
      exact ⟨hEd, by simp [rkA, rkB]; omega⟩
set_option maxRecDepth 100000 in
set_option maxHeartbeats 1600000 in
theorem rlocation35 (w : World) (k t n : Int) (hn1 : -9223372036854775808 <= n) (hn2 : n <= 9223372036854775807) :
    Calls Tryz.prog 36 #[.agg #[.int .i64 k, .int .i64 t], .int .i64 n] w (fun e w' => Ext w w' /\ e = .returned (.tuple #[.int .i64 (locN k t n), .int .i64 (locE k t n)])) := by
  obtain ⟨W, hW, hE, b0, hz⟩ := boxes1 w #[.int .i64 k, .int .i64 t] 28
  obtain ⟨b, hb⟩ : ∃ b, w.heap.size = b := ⟨_, rfl⟩
  rw [hb] at b0 hz
  have k0 : W.cell? ⟨b, 0, none⟩ = some (.int .i64 k) := b0.cell 0 rfl
  have k1 : W.cell? ⟨b, 1, none⟩ = some (.int .i64 t) := b0.cell 1 rfl
  have his := ris W k t
  have hfi := hid fun w' => rfits34 w' k t n hn1 hn2
  have hks := hid fun w' (h : Ext W w') => (⟨h.cell k0, h.cell k1⟩ : w'.cell? ⟨b, 0, none⟩ = some (.int .i64 k) /\ w'.cell? ⟨b, 1, none⟩ = some (.int .i64 t))
  obtain ⟨kb, hkb⟩ : ∃ kb, knownB k t = kb := ⟨_, rfl⟩
  obtain ⟨fb, hfb⟩ : ∃ fb, fitsB k t n = fb := ⟨_, rfl⟩
  rw [hkb] at his
  rw [hfb] at hfi
  by_cases hbad : kb = false \/ n < 1 \/ 64 < n
  · have e1 : locE k t n = 1 := by unfold locE; rw [hkb, if_pos hbad]
    have e2 : locN k t n = 0 := by unfold locN; rw [e1, if_neg (by decide)]
    rw [e1, e2]
    clear e1 e2 hkb hfb
    rcases hbad with rfl | h | h
    · go_enter Tryz.func36, Tryz.ntmps36
      go_wp2_with (first | (go_at_call 98; refine his.mono ?_; rintro ee w1 ⟨hE1, rfl⟩))
      go_ret2
      exact ⟨hE.trans hE1, rfl⟩
    · have h1 : decide (n < 1) = true := decide_eq_true h
      cases kb
      all_goals
        go_enter Tryz.func36, Tryz.ntmps36
        go_wp2_with (first | (go_at_call 98; refine his.mono ?_; rintro ee w1 ⟨hE1, rfl⟩))
        go_ret2
        exact ⟨hE.trans hE1, rfl⟩
    · have h1 : decide (n < 1) = false := decide_eq_false (by omega)
      have h2 : decide (64 < n) = true := decide_eq_true h
      cases kb
      all_goals
        go_enter Tryz.func36, Tryz.ntmps36
        go_wp2_with (first | (go_at_call 98; refine his.mono ?_; rintro ee w1 ⟨hE1, rfl⟩))
        go_ret2
        exact ⟨hE.trans hE1, rfl⟩
  · have hkt : kb = true := by cases kb <;> simp_all
    subst hkt
    have h1 : decide (n < 1) = false := decide_eq_false (by omega)
    have h2 : decide (64 < n) = false := decide_eq_false (by omega)
    obtain ⟨m, rfl⟩ := Int.eq_ofNat_of_zero_le (show 0 <= n by omega)
    cases hfc : fb with
    | false =>
      subst hfc
      have e1 : locE k t m = 10 := by unfold locE; rw [hkb, hfb, if_neg hbad, if_pos rfl]
      have e2 : locN k t m = 0 := by unfold locN; rw [e1, if_neg (by decide)]
      rw [e1, e2]
      clear e1 e2 hkb hfb
      go_enter Tryz.func36, Tryz.ntmps36
      go_wp2_with (first | (go_at_call 98; refine his.mono ?_; rintro ee w1 ⟨hE1, rfl⟩; obtain ⟨j0, j1⟩ := hks.out w1 hE1) | (go_at_call 95; refine (hfi.out _).mono ?_; rintro ee w2 ⟨hE2, rfl⟩))
      go_ret2
      exact ⟨hE.trans (hE1.trans hE2), rfl⟩
    | true =>
      subst hfc
      have hk := knownB_iff.1 hkb
      have hf := fitsB_iff.1 hfb
      have hrk := rk_ok hk hf
      have e1 : locE k t m = 0 := by unfold locE; rw [hkb, hfb, if_neg hbad, if_neg (by decide)]
      have e2 : locN k t m = min ((rkA k t m : Int) + 1) ((m : Int) - (rkB k t m : Int) + 1) := by unfold locN; rw [e1, if_pos rfl]; rfl
      rw [e1, e2]
      have hra := hid fun w' => rparts34 w' k t m (by omega) hk hf
      obtain ⟨A, hA⟩ : ∃ A, rkA k t m = A := ⟨_, rfl⟩
      obtain ⟨C, hC⟩ : ∃ C, rkB k t m = C := ⟨_, rfl⟩
      rw [hA, hC] at hra hrk |-
      have w0' : IntKind.i64.wrap ((A : Int) + 1) = (A : Int) + 1 := IntWalk.i64_in _ (by omega)
      have w1' : IntKind.i64.wrap ((m : Int) - (C : Int)) = (m : Int) - (C : Int) := IntWalk.i64_in _ (by omega)
      have w2' : IntKind.i64.wrap ((m : Int) - (C : Int) + 1) = (m : Int) - (C : Int) + 1 := IntWalk.i64_in _ (by omega)
      clear e1 e2 hkb hfb hA hC hk hf
      go_enter Tryz.func36, Tryz.ntmps36
      go_wp2_with (first | (go_at_call 98; refine his.mono ?_; rintro ee w1 ⟨hE1, rfl⟩; obtain ⟨j0, j1⟩ := hks.out w1 hE1) | (go_at_call 95; refine (hfi.out _).mono ?_; rintro ee w2 ⟨hE2, rfl⟩; obtain ⟨l0, l1⟩ := hks.out w2 (hE1.trans hE2)) | (go_at_call 99; refine (hra.out _).mono ?_; rintro ee w3 ⟨hE3, rfl⟩))
      go_ret2
      refine ⟨hE.trans (hE1.trans (hE2.trans hE3)), ?_⟩
      show Ending.returned (.tuple #[.int .i64 (min (A : Int) ((m : Int) - (C : Int)) + 1), .int .i64 0]) = _
      rw [show min (A : Int) ((m : Int) - (C : Int)) + 1 = min ((A : Int) + 1) ((m : Int) - (C : Int) + 1) by omega]
end Go.Proofs.YtgimdkjgaemcbaaGreat
namespace Go.Proofs.YtgimdkjgaemcbaaGreat
open Go.RowKit Go.Rep Go.Lim Go.Lin
def TFitOut (X : Nat -> Bool) (tb n : Nat) (w : World) (e : Ending) (w' : World) : Prop := ExtX (tbm tb) w w' /\ TapeR X tb w' /\ ∃ k t : Int, e = .returned (.agg #[.int .i64 k, .int .i64 t]) /\ knownL k t /\ fitsL k t n /\ t <= n
def TValOut (X : Nat -> Bool) (tb n : Nat) (w : World) (e : Ending) (w' : World) : Prop := ExtX (tbm tb) w w' /\ ∃ (ao : Option Addr) (l : List Rat) (cap : Nat), e = .returned (.slice ao l.length cap) /\ l.length <= cap /\ 1 <= l.length /\ l.length <= n /\ BR 2 l /\ TapeR (un X ao) tb w' /\ OL QC 3 X w.heap.size 38 w' ao cap l
theorem iw_ext {tb : Nat} {w w1 w2 : World} (h : w.heap.size = tb) (hE : Ext w w1) (h2 : ExtX (tbm tb) w1 w2) : Ext w w2 := hE.then_ h2 fun i hi _ => tbm_ne (by omega)
theorem un_comm (X : Nat -> Bool) (a b : Option Addr) : un (un X a) b = un (un X b) a := by
  funext k
  simp only [un]
  cases X k <;> cases ob a k <;> cases ob b k <;> rfl
set_option maxRecDepth 100000 in
set_option maxHeartbeats 1600000 in
theorem tvalues_any (X : Nat -> Bool) (tb n : Nat) (w : World) (ht : TapeR X tb w) (hX : HX X w) (hn1 : 1 <= n) (hn : n <= 64) :
    Calls Tryz.prog 15 #[.pointer (some ⟨tb, 0, none⟩), .int .i64 (n : Int)] w (TValOut X tb n w) := by
  have hsub := tbm_sub ht.1
  have htX := ht.1
  go_enter Tryz.func15, Tryz.ntmps15
  go_wp2_with fail
  refine (trat_any X tb w ht hX).mono ?_
  rintro e w1 ⟨hE1, ht1, u1, q1, rfl, hu1, hq1⟩
  obtain ⟨s1, a1, n1, c1, d1, k1, e1, rfl⟩ := hu1.shape
  have hX1 := hX.ext hE1
  have hL := (lit_rat1 X w1 s1 a1 n1 c1 d1 k1 e1 q1 38 hX1 hu1).base_le (b' := w.heap.size) hE1.size
  have ht1X := ht1.old (oo := some ⟨w1.heap.size, 0, none⟩) ((ExtX.refl (Y := noY) w1).alloc (.cells #[.bool s1, .slice a1 n1 c1, .slice d1 k1 e1] 38)) (ob_new w1)
  have hF1 : ExtX (tbm tb) w (w1.alloc (.cells #[.bool s1, .slice a1 n1 c1, .slice d1 k1 e1] 38)) := hE1.alloc _
  obtain ⟨w2, hw2⟩ : ∃ w2, w1.alloc (.cells #[.bool s1, .slice a1 n1 c1, .slice d1 k1 e1] 38) = w2 := ⟨_, rfl⟩
  obtain ⟨g1, hg1⟩ : ∃ g1 : Option Addr, some ⟨w1.heap.size, 0, none⟩ = g1 := ⟨_, rfl⟩
  rw [hg1] at hL ht1X
  rw [hw2] at hL ht1X hF1
  go_wp2_with fail
  have hX2 : HX X w2 := hX.ext hF1
  refine (next_any (un X g1) tb n _ ht1X (by omega)).mono ?_
  rintro e w3 ⟨hE3, ht3, m3, rfl, hm3⟩
  have hO3 := hL.ext QC.elem hE3 (fun k _ hk => hsub k hk) (fun _ _ h => h)
  have hF3 := hF1.trans hE3
  clear hL ht1X hF1 hE3 hX2 hX1 ht1 hE1 hw2 hg1
  go_wp2_with fail
  go_loopw [5, 6] (fun s c wr => ∃ (i k : Nat) (oo : Option Addr) (co : Nat) (l : List Rat), c = .int .i64 i /\ s = .slice oo k co /\ l.length = k /\ 1 <= k /\ i + k <= n /\ BR 2 l /\ OL QC 3 X w.heap.size 38 wr oo co l /\ TapeR (un X oo) tb wr /\ ExtX (tbm tb) w wr) (fun _ c _ => (intOf c).toNat)
  case atStart => exact ⟨m3, 1, _, _, [q1], rfl, rfl, rfl, Nat.le_refl _, by omega, fun q hq => by rw [List.mem_singleton.1 hq]; exact hq1, hO3, ht3, hF3⟩
  case round =>
    clear hO3 ht3 hF3
    obtain ⟨i, k, oo, co, l, rfl, rfl, hlk, hk1, hik, hB, hO, htr, hE⟩ := hrel
    have hXr : HX X wr := hX.ext hE
    by_cases hlt : 0 < i
    · have hXu : HX (un X oo) wr := hO.unX hXr
      have hlk' := hid hlk
      obtain ⟨i, rfl⟩ : ∃ j, i = j + 1 := ⟨i - 1, by omega⟩
      clear hlk
      go_wp2_with fail
      refine (trat_any (un X oo) tb wr htr hXu).mono ?_
      rintro e w2 ⟨hE2, ht2, u6, q, rfl, hu6, hq6⟩
      obtain ⟨s6, a6, n6, c6, d6, k6, e6, rfl⟩ := hu6.shape
      have hO2 := hO.ext QC.elem hE2 (fun k _ hk => hsub k hk) (fun _ _ h => h)
      have hX2 := hXu.ext hE2
      have hF2 := hE.trans hE2
      have hF2s := hid hF2.size
      have bx := Bx.new w2 #[.bool false, .slice none 0 0, .slice none 0 0] 38
      obtain ⟨bo, hbo⟩ : ∃ bo, w2.heap.size = bo := ⟨_, rfl⟩
      rw [hbo] at bx
      have hbnew : ∀ j, j < w2.heap.size -> ob (some ⟨bo, 0, none⟩) j = false := fun j hj => ob_other (by omega)
      have htbo : tb < bo := by have := ht2.lt; omega
      go_wp2_with ((with_reducible show wpList _ _ _ (⟨_, .store 38 _ _, _, _, _, _⟩ :: _) _ _); refine st_storeBox stRat rfl rfl bx rfl rfl (one3 _ _ _ _ _ _ _) ?_; intro w4 r1 r2)
      have hE4 : Ext w2 w4 := ExtX.box ((ExtX.refl w2).alloc _) r2 (by omega)
      obtain ⟨Xb, hXb⟩ : ∃ Xb, un X (some ⟨bo, 0, none⟩) = Xb := ⟨_, rfl⟩
      have hXbu : un (un X oo) (some ⟨bo, 0, none⟩) = un Xb oo := by rw [un_comm, hXb]
      have ht4 : TapeR (un Xb oo) tb w4 := by rw [<- hXbu]; exact ht2.old hE4 hbnew
      have hu4 : QC (mk (un Xb oo) w4) (.agg #[.bool s6, .slice a6 n6 c6, .slice d6 k6 e6]) q := by rw [<- hXbu]; exact old_un QC.mono hu6 hE4 hbnew
      have hX4 : HX Xb w4 := fun k hk => by
        rw [<- hXb] at hk
        by_cases hx : X k = true
        · exact (hX.ext hF2).ext hE4 k hx
        · have : bo = k := by simpa [un, hx, ob] using hk
          have := r1.lt
          omega
      have hO4 : OL QC 3 Xb w.heap.size 38 w4 oo co l := hO2.ext QC.elem hE4 (fun k _ hk => by simp [noY] at hk) (fun k hk hz => by
        rw [<- hXb] at hz
        rcases Bool.or_eq_true_iff.1 hz with h | h
        · exact h
        · rw [hbnew k hk] at h; exact absurd h (by decide))
      have hF4 : ExtX (tbm tb) w w4 := hF2.trans (ExtX.of hE4)
      have hbX : Xb bo = true := by rw [<- hXb]; simp [un, ob]
      have hsubX : ∀ k, X k = true -> Xb k = true := fun k hk => by rw [<- hXb]; exact un_left hk
      clear hO2 hu6 ht2 bx hE4 hX2 hO hXu hXr hE2 hF2 r2
      refine (tbool_any (un Xb oo) tb 4 w4 ht4 (by decide) (by decide)).mono ?_
      rintro e w5 ⟨hE5, ht5, bb, rfl⟩
      have hX5 : HX Xb w5 := hX4.ext hE5
      have hO5 := hO4.ext QC.elem hE5 (fun k _ hk => hsubX k (hsub k hk)) (fun _ _ h => h)
      have hu5 := QC.mono _ _ _ _ (mk_mono hE5 (fun k hk => un_left (hsubX k (hsub k hk)))) hu4
      have hF5 := hF4.trans hE5
      have r5 := r1.ext hE5 (tbm_ne (by omega))
      clear hO4 hu4 hF4 ht4 hX4 hE5
      cases bb
      · have hsz5 := hF5.size
        go_wp2_with (first | ((with_reducible show wpList _ _ _ (⟨_, .load 38 _, _, _, _, _⟩ :: _) _ _); refine st_loadBox stRat rfl r5 rfl ?_) | (at_builtin; refine st_append1n (l := l) slRat rfl QC.elem hsz5 hX5 k hlk'.out rfl rfl hO5 (.agg #[.bool s6, .slice a6 n6 c6, .slice d6 k6 e6]) q rfl hu5 (by omega) (by omega) ?_; intro oo2 co2 w7 hO7 hE7 hor))
        have hE8 := hF5.own hO5 (Nat.le_refl _) hE7
        have ht8 := (ht5.unstep (hO5.not_ob (hsubX _ htX)) hE7 hor)
        have ht9 : TapeR (un X oo2) tb w7 := by
          rw [<- hXb, un_comm] at ht8
          exact ht8.unX (un_left htX)
        have hO9 : OL QC 3 X w.heap.size 38 w7 oo2 co2 (l ++ [q]) := hO7.ext QC.elem (ExtX.refl (Y := noY) w7) (fun k _ hk => by simp [noY] at hk) (fun k _ hk => hsubX k hk)
        have hB2 : BR 2 (l ++ [q]) := fun x hx => by
          rcases List.mem_append.1 hx with h | h
          · exact hB x h
          · rw [List.mem_singleton.1 h]; exact hq6
        have hl2 : (l ++ [q]).length = k + 1 := by rw [List.length_append, hlk'.out]; rfl
        go_roundw
        case rel => exact ⟨i, k + 1, oo2, co2, _, by go_num, by go_num, hl2, by omega, by omega, hB2, hO9, ht9, hE8⟩
        case measure => simp [intOf]
      · go_wp2_with fail
        refine (next_any (un Xb oo) tb k w5 ht5 (by omega)).mono ?_
        rintro e w6 ⟨hE6, ht6, m6, rfl, hm6⟩
        have hm6k : m6 < k := by omega
        have hm6' : m6 < l.length := by rw [hlk'.out]; exact hm6k
        have hX6 : HX Xb w6 := hX5.ext hE6
        have hO6 := hO5.ext QC.elem hE6 (fun k _ hk => hsubX k (hsub k hk)) (fun _ _ h => h)
        have hF6 := hF5.trans hE6
        have r6 := r5.ext hE6 (tbm_ne (by omega))
        have hh6 := hO6.hd
        rw [hlk'.out] at hh6
        have hqm := hB l[m6] (List.getElem_mem _)
        obtain ⟨x, hx⟩ : ∃ x, l[m6] = x := ⟨_, rfl⟩
        rw [hx] at hqm
        have hx' := hid hx
        clear hx hO5 ht5 hX5 r5 hu5 hF5 hE6 r1
        go_wp2_with (first
          | (with_reducible refine up_ixn slRat (by omega) (by assumption) ?_)
          | ((with_reducible show wpList _ _ _ (⟨_, .load 38 _, _, _, _, _⟩ :: _) _ _); refine st_loadOL stRat m6 hO6 hm6' rfl (by simp) QC.agg ?_; intro u7 hu7; rw [hx'.out] at hu7; obtain ⟨s7, a7, n7, c7, d7, k7, e7, rfl⟩ := hu7.shape)
          | ((with_reducible show wpList _ _ _ (⟨_, .store 38 _ _, _, _, _, _⟩ :: _) _ _); refine st_storeBox stRat rfl rfl r6 rfl rfl (one3 _ _ _ _ _ _ _) ?_; intro w8 r8 r9; have hO8 := hO6.ext QC.elem r9 (fun k _ hk => by have : bo = k := by { simpa [ob] using hk }; rw [<- this]; exact hbX) (fun _ _ h => h); have hu8 := QC.mono _ _ _ _ (mk_mono r9 (fun k hk => un_left (by have : bo = k := by { simpa [ob] using hk }; rw [<- this]; exact hbX))) hu7; have hX8 := hX6.ext r9)
          | ((with_reducible show wpList _ _ _ (⟨_, .load 38 _, _, _, _, _⟩ :: _) _ _); refine st_loadBox stRat rfl r8 rfl ?_)
          | (at_builtin; refine st_append1n (l := l) slRat rfl QC.elem (Nat.le_trans hF6.size r9.size) hX8 k hlk'.out rfl rfl hO8 (.agg #[.bool s7, .slice a7 n7 c7, .slice d7 k7 e7]) x rfl hu8 (by omega) (by omega) ?_; intro oo2 co2 wa hOa hEa hor))
        have hbs : w.heap.size <= bo := by have := hF2s.out; omega
        have hF8 : ExtX (tbm tb) w w8 := hF6.then_ r9 fun i hi _ => ob_other (by omega)
        have hE9 := hF8.own hO8 (Nat.le_refl _) hEa
        have ht7 : TapeR (un Xb oo) tb w8 := ht6.extY r9 (fun k hk => un_left (by
          have : bo = k := by simpa [ob] using hk
          rw [<- this]; exact hbX)) (ob_other (by omega))
        have ht8 := ht7.unstep (hO8.not_ob (hsubX _ htX)) hEa hor
        have ht9 : TapeR (un X oo2) tb wa := by
          rw [<- hXb, un_comm] at ht8
          exact ht8.unX (un_left htX)
        have hO9 : OL QC 3 X w.heap.size 38 wa oo2 co2 (l ++ [x]) := hOa.ext QC.elem (ExtX.refl (Y := noY) wa) (fun k _ hk => by simp [noY] at hk) (fun k _ hk => hsubX k hk)
        have hB2 : BR 2 (l ++ [x]) := fun y hy => by
          rcases List.mem_append.1 hy with h | h
          · exact hB y h
          · rw [List.mem_singleton.1 h]; exact hqm
        have hl2 : (l ++ [x]).length = k + 1 := by rw [List.length_append, hlk'.out]; rfl
        go_roundw
        case rel => exact ⟨i, k + 1, oo2, co2, _, by go_num, by go_num, hl2, by omega, by omega, hB2, hO9, ht9, hE9⟩
        case measure => simp [intOf]
    · have hil : i = 0 := by omega
      subst hil hlk
      have hc := hO.lenCap
      go_wp2_with fail
      go_ret
      exact ⟨hE, oo, l, co, rfl, hc, hk1, by omega, hB, htr, hO⟩
set_option maxRecDepth 100000 in
set_option maxHeartbeats 1600000 in
theorem tfitting_any (X : Nat -> Bool) (tb n : Nat) (w : World) (ht : TapeR X tb w) (hX : HX X w) (hn1 : 1 <= n) (hn : n <= 64) :
    Calls Tryz.prog 16 #[.pointer (some ⟨tb, 0, none⟩), .int .i64 (n : Int)] w (TFitOut X tb n w) := by
  have htb := ht.lt
  have htX := ht.1
  obtain ⟨W, hW, hE, b0, hz⟩ := boxes1 w #[.int .i64 0, .int .i64 0] 28
  have hXW : HX (hidB X w.heap.size 1) W := hX.boxes hz
  have htW : TapeR (hidB X w.heap.size 1) tb W := ht.box hE
  obtain ⟨b, hb⟩ : ∃ b, w.heap.size = b := ⟨_, rfl⟩
  have hbw : w.heap.size <= b := by omega
  have htb' : tb ≠ b := by omega
  have hbt : b ≠ tb := by omega
  rw [hb] at b0 hz hXW htW
  have hEb : ExtX (tbm tb) w W := ExtX.of hE
  have eq1 : Int.tdiv ((n : Int) - 1) 2 = ((n : Int) - 1) / 2 := Int.tdiv_eq_ediv_of_nonneg (by omega)
  clear hE
  go_enter Tryz.func16, Tryz.ntmps16
  go_wp2_with fail
  refine (next_any (hidB X b 1) tb 5 _ htW (by omega)).mono ?_
  rintro e w1 ⟨hE1, ht1, m, rfl, hm⟩
  have b1 := b0.ext hE1 (tbm_ne hbt)
  have hX1 := hXW.ext hE1
  have hF1 := hEb.trans hE1
  have bx := Bx.new w1 #[.int .i64 0, .int .i64 0] 28
  obtain ⟨bo, hbo⟩ : ∃ bo, w1.heap.size = bo := ⟨_, rfl⟩
  rw [hbo] at bx
  have hbob : b < bo := by have := b1.lt; omega
  have htbo : tb < bo := by have := ht1.lt; omega
  clear b0 hXW htW hEb hE1
  by_cases h4 : m = 4
  · subst h4
    have ew0 : IntKind.i64.wrap ((n : Int) - 1) = (n : Int) - 1 := IntWalk.i64_in _ (by omega)
    have ew1 : IntKind.i64.wrap (((n : Int) - 1) / 2 + 1) = ((n : Int) - 1) / 2 + 1 := IntWalk.i64_in _ (by omega)
    have hn0 : decide ((0 : Int) < (n : Int)) = true := decide_eq_true (by omega)
    go_wp2_with ((with_reducible show wpList _ _ _ (⟨_, .store 28 _ _, _, _, _, _⟩ :: _) _ _); refine st_storeBox stLoc rfl rfl bx rfl rfl (by simp [Value.oneCell']) ?_; intro w2 r1 r2; have k0 : w2.cell? ⟨bo, 0, none⟩ = some (.int .i64 5) := r1.cell 0 rfl)
    have hE2 : Ext w1 w2 := ExtX.box ((ExtX.refl w1).alloc _) r2 (by omega)
    have hbnew : ∀ j, j < w1.heap.size -> ob (some ⟨bo, 0, none⟩) j = false := fun j hj => ob_other (by omega)
    have ht2 : TapeR (un (hidB X b 1) (some ⟨bo, 0, none⟩)) tb w2 := ht1.old hE2 hbnew
    have b2 := b1.ext0 hE2
    have hF2 := hF1.trans (ExtX.of hE2)
    refine (next_any (un (hidB X b 1) (some ⟨bo, 0, none⟩)) tb (((n : Int) - 1) / 2 + 1) w2 ht2 (by omega)).mono ?_
    rintro e w3 ⟨hE3, ht3, m3, rfl, hm3⟩
    have r3 := r1.ext hE3 (tbm_ne (by omega))
    have b3 := b2.ext hE3 (tbm_ne hbt)
    have hF3 := hF2.trans hE3
    clear k0 b1 b2 r1 r2 bx ht1 ht2 hE3 hF1 hF2 hX1
    go_wp2_with (first
      | ((with_reducible show wpList _ _ _ (⟨_, .store 3 _ _, _, _, _, _⟩ :: _) _ _); refine st_storeCell (v := .int .i64 (m3 : Int)) tyInt rfl rfl rfl rfl r3 (by decide) ?_; intro w4 r4 y4; have b4 := b3.ext y4 (ob_other (by omega)))
      | ((with_reducible show wpList _ _ _ (⟨_, .load 28 _, _, _, _, _⟩ :: _) _ _); refine st_loadBox stLoc rfl r4 rfl ?_)
      | ((with_reducible show wpList _ _ _ (⟨_, .store 28 _ _, _, _, _, _⟩ :: _) _ _); refine st_storeBox stLoc rfl rfl b4 rfl rfl (by simp [Value.oneCell']) ?_; intro w5 r5 y5))
    have hbw1 : w.heap.size <= b := hbw
    have ht4 : TapeR (un (hidB X b 1) (some ⟨bo, 0, none⟩)) tb w4 := ht3.extY y4 (fun k hk => un_right hk) (ob_other (by omega))
    have ht5 := ((ht4.unX (by rw [hidB_X htX])).store y5 (by omega) htb').unbox htX
    have hF4 : ExtX (tbm tb) w w4 := hF3.then_ y4 fun i hi _ => ob_other (by omega)
    exact bodyPost_ret (results_box rfl rfl stLoc r5 rfl) rfl ⟨hF4.tbox y5 hbw, ht5, 5, (m3 : Int), rfl, ⟨by omega, by omega, by omega, Or.inl rfl⟩, ⟨hn1, Or.inr (by omega)⟩, by omega⟩
  · have h5 : (1 + (m : Int) == 5) = false := beqF (by omega)
    go_wp2_with (first
      | ((with_reducible show wpList _ _ _ (⟨_, .store 28 _ _, _, _, _, _⟩ :: _) _ _); refine st_storeBox stLoc rfl rfl bx rfl rfl (by simp [Value.oneCell']) ?_; intro w2 r1 r2; have k0 : w2.cell? ⟨bo, 0, none⟩ = some (.int .i64 (1 + (m : Int))) := r1.cell 0 rfl; have hE2 : Ext w1 w2 := ExtX.box ((ExtX.refl w1).alloc _) r2 (by omega); have b2 := b1.ext0 hE2; clear bx)
      | ((with_reducible show wpList _ _ _ (⟨_, .load 28 _, _, _, _, _⟩ :: _) _ _); refine st_loadBox stLoc rfl r1 rfl ?_)
      | ((with_reducible show wpList _ _ _ (⟨_, .store 28 _ _, _, _, _, _⟩ :: _) _ _); refine st_storeBox stLoc rfl rfl b2 rfl rfl (by simp [Value.oneCell']) ?_; intro w5 r5 y5))
    have ht5 := ((ht1.ext hE2).store y5 (by omega) htb').unbox htX
    have hF2 := hF1.trans (ExtX.of hE2)
    exact bodyPost_ret (results_box rfl rfl stLoc r5 rfl) rfl ⟨hF2.tbox y5 hbw, ht5, 1 + (m : Int), 0, rfl, ⟨by omega, by omega, by omega, Or.inr rfl⟩, ⟨hn1, Or.inl (by omega)⟩, by omega⟩
end Go.Proofs.YtgimdkjgaemcbaaGreat
namespace Go.Proofs.YtgimdkjgaemcbaaGreat
open Go.RowKit Go.Rep Go.Lim Go.Lin
def TLocOut (X : Nat -> Bool) (tb : Nat) (w : World) (e : Ending) (w' : World) : Prop := ExtX (tbm tb) w w' /\ TapeR X tb w' /\ ∃ k t : Int, e = .returned (.agg #[.int .i64 k, .int .i64 t])
theorem hx_un {X : Nat -> Bool} {b : Nat} {w : World} (h : HX X w) (hb : b < w.heap.size) : HX (un X (some ⟨b, 0, none⟩)) w := fun k hk => by
  unfold un at hk
  rcases Bool.or_eq_true _ _ |>.mp hk with h1 | h1
  · exact h k h1
  · have : b = k := by simpa [ob] using h1
    omega
set_option maxRecDepth 100000 in
set_option maxHeartbeats 1600000 in
theorem tlocation_any (X : Nat -> Bool) (tb : Nat) (w : World) (ht : TapeR X tb w) (hX : HX X w) :
    Calls Tryz.prog 28 #[.pointer (some ⟨tb, 0, none⟩)] w (TLocOut X tb w) := by
  have htb := ht.lt
  have htX := ht.1
  obtain ⟨W, hW, hE, b0, hz⟩ := boxes1 w #[.int .i64 0, .int .i64 0] 28
  have hXW : HX (hidB X w.heap.size 1) W := hX.boxes hz
  have htW : TapeR (hidB X w.heap.size 1) tb W := ht.box hE
  obtain ⟨b, hb⟩ : ∃ b, w.heap.size = b := ⟨_, rfl⟩
  have hbw : w.heap.size <= b := by omega
  have htb' : tb ≠ b := by omega
  have hbt : b ≠ tb := by omega
  rw [hb] at b0 hz hXW htW
  have hEb : ExtX (tbm tb) w W := ExtX.of hE
  clear hE
  go_enter Tryz.func28, Tryz.ntmps28
  go_wp2_with fail
  refine (next_any (hidB X b 1) tb 5 _ htW (by omega)).mono ?_
  rintro e w1 ⟨hE1, ht1, m, rfl, hm⟩
  have b1 := b0.ext hE1 (tbm_ne hbt)
  have hX1 := hXW.ext hE1
  have hF1 := hEb.trans hE1
  have bx := Bx.new w1 #[.int .i64 0, .int .i64 0] 28
  obtain ⟨bo, hbo⟩ : ∃ bo, w1.heap.size = bo := ⟨_, rfl⟩
  rw [hbo] at bx
  have hbob : b < bo := by have := b1.lt; omega
  have htbo : tb < bo := by have := ht1.lt; omega
  have hbnew : ∀ j, j < w1.heap.size -> ob (some ⟨bo, 0, none⟩) j = false := fun j hj => ob_other (by omega)
  clear b0 hXW htW hEb hE1
  by_cases h4 : m = 4
  · subst h4
    go_wp2_with ((with_reducible show wpList _ _ _ (⟨_, .store 28 _ _, _, _, _, _⟩ :: _) _ _); refine st_storeBox stLoc rfl rfl bx rfl rfl (by simp [Value.oneCell']) ?_; intro w2 r1 r2; have k0 : w2.cell? ⟨bo, 0, none⟩ = some (.int .i64 5) := r1.cell 0 rfl)
    have hE2 : Ext w1 w2 := ExtX.box ((ExtX.refl w1).alloc _) r2 (by omega)
    have ht2 : TapeR (un (hidB X b 1) (some ⟨bo, 0, none⟩)) tb w2 := ht1.old hE2 hbnew
    have hX2 : HX (un (hidB X b 1) (some ⟨bo, 0, none⟩)) w2 := hx_un (hX1.ext hE2) r1.lt
    have b2 := b1.ext0 hE2
    have hF2 := hF1.trans (ExtX.of hE2)
    refine (next_any (un (hidB X b 1) (some ⟨bo, 0, none⟩)) tb 3 w2 ht2 (by omega)).mono ?_
    rintro e wa ⟨hEa, hta, ma, rfl, hma⟩
    have ra := r1.ext hEa (tbm_ne (by omega))
    have ba := b2.ext hEa (tbm_ne hbt)
    have hFa := hF2.trans hEa
    have hXa := hX2.ext hEa
    clear k0 b1 b2 r1 r2 bx ht1 ht2 hE2 hEa hF1 hF2 hX1 hX2
    go_wp2_with (first
      | ((with_reducible show wpList _ _ _ (⟨_, .store 3 _ _, _, _, _, _⟩ :: _) _ _); refine st_storeCell (v := .int .i64 (ma : Int)) tyInt rfl rfl rfl rfl ra (by decide) ?_; intro w3 r3 y3; have b3 := ba.ext y3 (ob_other (by omega))))
    have ht3 : TapeR (un (hidB X b 1) (some ⟨bo, 0, none⟩)) tb w3 := hta.extY y3 (fun k hk => un_right hk) (ob_other (by omega))
    have hF3 : ExtX (tbm tb) w w3 := hFa.then_ y3 fun i hi _ => ob_other (by omega)
    have hX3 := hXa.ext y3
    obtain ⟨K, hK⟩ : ∃ K : Int, K = 5 := ⟨_, rfl⟩
    obtain ⟨T, hT⟩ : ∃ T : Int, T = (ma : Int) := ⟨_, rfl⟩
    have r3 : Bx w3 bo #[.int .i64 K, .int .i64 T] 28 := by rw [hK, hT]; exact r3
    clear ra ba hta hFa hXa y3
    refine (next_any (un (hidB X b 1) (some ⟨bo, 0, none⟩)) tb 14 w3 ht3 (by omega)).mono ?_
    rintro e w4 ⟨hE4, ht4, m4, rfl, hm4⟩
    have r4 := r3.ext hE4 (tbm_ne (by omega))
    have b4 := b3.ext hE4 (tbm_ne hbt)
    have hF4 := hF3.trans hE4
    have hX4 := hX3.ext hE4
    clear r3 b3 ht3 hF3 hX3 hE4
    by_cases c12 : m4 = 12
    · subst c12
      go_wp2_with fail
      refine (lit_pick (un (hidB X b 1) (some ⟨bo, 0, none⟩)) tb [0, 6, -1] _ _ _ w4 (-1) 6 ht4 hX4 rfl rfl (by simp) (by simp) (hid (by simp))).mono ?_
      rintro e w5 ⟨hE5, ht5, v5, rfl, _⟩
      have r5 := r4.ext hE5 (tbm_ne (by omega))
      have b5 := b4.ext hE5 (tbm_ne hbt)
      have hF5 := hF4.trans hE5
      clear r4 b4 ht4 hF4 hE5
      go_wp2_with (first
        | ((with_reducible show wpList _ _ _ (⟨_, .store 3 _ _, _, _, _, _⟩ :: _) _ _); refine st_storeCell (v := .int .i64 v5) tyInt rfl rfl rfl rfl r5 (by simp) ?_; intro w6 r6 y6; have b6 := b5.ext y6 (ob_other (by omega)))
        | ((with_reducible show wpList _ _ _ (⟨_, .load 28 _, _, _, _, _⟩ :: _) _ _); refine st_loadBox stLoc rfl r6 rfl ?_)
        | ((with_reducible show wpList _ _ _ (⟨_, .store 28 _ _, _, _, _, _⟩ :: _) _ _); refine st_storeBox stLoc rfl rfl b6 rfl rfl (by simp [Value.oneCell']) ?_; intro w7 r7 y7))
      have ht6 : TapeR (un (hidB X b 1) (some ⟨bo, 0, none⟩)) tb w6 := ht5.extY y6 (fun k hk => un_right hk) (ob_other (by omega))
      have hF6 : ExtX (tbm tb) w w6 := hF5.then_ y6 fun i hi _ => ob_other (by omega)
      have ht7 := ((ht6.unX (by rw [hidB_X htX])).store y7 (by omega) htb').unbox htX
      exact bodyPost_ret (results_box rfl rfl stLoc r7 rfl) rfl ⟨hF6.tbox y7 hbw, ht7, _, _, rfl⟩
    · by_cases c13 : m4 = 13
      · subst c13
        go_wp2_with fail
        refine (lit_pick (un (hidB X b 1) (some ⟨bo, 0, none⟩)) tb [-1, 1, 4611686018427387904] _ _ _ w4 (-1) 4611686018427387904 ht4 hX4 rfl rfl (by simp) (by simp) (hid (by simp))).mono ?_
        rintro e w5 ⟨hE5, ht5, v5, rfl, _⟩
        have r5 := r4.ext hE5 (tbm_ne (by omega))
        have b5 := b4.ext hE5 (tbm_ne hbt)
        have hF5 := hF4.trans hE5
        clear r4 b4 ht4 hF4 hE5
        go_wp2_with (first
          | ((with_reducible show wpList _ _ _ (⟨_, .store 3 _ _, _, _, _, _⟩ :: _) _ _); refine st_storeCell (v := .int .i64 v5) tyInt rfl rfl rfl rfl r5 (by simp) ?_; intro w6 r6 y6; have b6 := b5.ext y6 (ob_other (by omega)))
          | ((with_reducible show wpList _ _ _ (⟨_, .load 28 _, _, _, _, _⟩ :: _) _ _); refine st_loadBox stLoc rfl r6 rfl ?_)
          | ((with_reducible show wpList _ _ _ (⟨_, .store 28 _ _, _, _, _, _⟩ :: _) _ _); refine st_storeBox stLoc rfl rfl b6 rfl rfl (by simp [Value.oneCell']) ?_; intro w7 r7 y7))
        have ht6 : TapeR (un (hidB X b 1) (some ⟨bo, 0, none⟩)) tb w6 := ht5.extY y6 (fun k hk => un_right hk) (ob_other (by omega))
        have hF6 : ExtX (tbm tb) w w6 := hF5.then_ y6 fun i hi _ => ob_other (by omega)
        have ht7 := ((ht6.unX (by rw [hidB_X htX])).store y7 (by omega) htb').unbox htX
        exact bodyPost_ret (results_box rfl rfl stLoc r7 rfl) rfl ⟨hF6.tbox y7 hbw, ht7, _, _, rfl⟩
      · have q12 : ((m4 : Int) == 12) = false := beqF (by omega)
        have q13 : ((m4 : Int) == 13) = false := beqF (by omega)
        go_wp2_with (first
          | ((with_reducible show wpList _ _ _ (⟨_, .load 28 _, _, _, _, _⟩ :: _) _ _); refine st_loadBox stLoc rfl r4 rfl ?_)
          | ((with_reducible show wpList _ _ _ (⟨_, .store 28 _ _, _, _, _, _⟩ :: _) _ _); refine st_storeBox stLoc rfl rfl b4 rfl rfl (by simp [Value.oneCell']) ?_; intro w7 r7 y7))
        have ht6 := ht4
        have hF6 := hF4
        have ht7 := ((ht6.unX (by rw [hidB_X htX])).store y7 (by omega) htb').unbox htX
        exact bodyPost_ret (results_box rfl rfl stLoc r7 rfl) rfl ⟨hF6.tbox y7 hbw, ht7, _, _, rfl⟩
  · have h5 : (1 + (m : Int) == 5) = false := beqF (by omega)
    go_wp2_with (first
      | ((with_reducible show wpList _ _ _ (⟨_, .store 28 _ _, _, _, _, _⟩ :: _) _ _); refine st_storeBox stLoc rfl rfl bx rfl rfl (by simp [Value.oneCell']) ?_; intro w3 r3 r2; have k0 : w3.cell? ⟨bo, 0, none⟩ = some (.int .i64 (1 + (m : Int))) := r3.cell 0 rfl; have hE2 : Ext w1 w3 := ExtX.box ((ExtX.refl w1).alloc _) r2 (by omega); have b3 := b1.ext0 hE2; clear bx))
    have ht3 : TapeR (un (hidB X b 1) (some ⟨bo, 0, none⟩)) tb w3 := ht1.old hE2 hbnew
    have hX3 : HX (un (hidB X b 1) (some ⟨bo, 0, none⟩)) w3 := hx_un (hX1.ext hE2) r3.lt
    have hF3 := hF1.trans (ExtX.of hE2)
    obtain ⟨K, hK⟩ : ∃ K : Int, K = 1 + (m : Int) := ⟨_, rfl⟩
    obtain ⟨T, hT⟩ : ∃ T : Int, T = 0 := ⟨_, rfl⟩
    have r3 : Bx w3 bo #[.int .i64 K, .int .i64 T] 28 := by rw [hK, hT]; exact r3
    clear k0 b1 r2 ht1 hE2 hF1 hX1
    refine (next_any (un (hidB X b 1) (some ⟨bo, 0, none⟩)) tb 14 w3 ht3 (by omega)).mono ?_
    rintro e w4 ⟨hE4, ht4, m4, rfl, hm4⟩
    have r4 := r3.ext hE4 (tbm_ne (by omega))
    have b4 := b3.ext hE4 (tbm_ne hbt)
    have hF4 := hF3.trans hE4
    have hX4 := hX3.ext hE4
    clear r3 b3 ht3 hF3 hX3 hE4
    by_cases c12 : m4 = 12
    · subst c12
      go_wp2_with fail
      refine (lit_pick (un (hidB X b 1) (some ⟨bo, 0, none⟩)) tb [0, 6, -1] _ _ _ w4 (-1) 6 ht4 hX4 rfl rfl (by simp) (by simp) (hid (by simp))).mono ?_
      rintro e w5 ⟨hE5, ht5, v5, rfl, _⟩
      have r5 := r4.ext hE5 (tbm_ne (by omega))
      have b5 := b4.ext hE5 (tbm_ne hbt)
      have hF5 := hF4.trans hE5
      clear r4 b4 ht4 hF4 hE5
      go_wp2_with (first
        | ((with_reducible show wpList _ _ _ (⟨_, .store 3 _ _, _, _, _, _⟩ :: _) _ _); refine st_storeCell (v := .int .i64 v5) tyInt rfl rfl rfl rfl r5 (by simp) ?_; intro w6 r6 y6; have b6 := b5.ext y6 (ob_other (by omega)))
        | ((with_reducible show wpList _ _ _ (⟨_, .load 28 _, _, _, _, _⟩ :: _) _ _); refine st_loadBox stLoc rfl r6 rfl ?_)
        | ((with_reducible show wpList _ _ _ (⟨_, .store 28 _ _, _, _, _, _⟩ :: _) _ _); refine st_storeBox stLoc rfl rfl b6 rfl rfl (by simp [Value.oneCell']) ?_; intro w7 r7 y7))
      have ht6 : TapeR (un (hidB X b 1) (some ⟨bo, 0, none⟩)) tb w6 := ht5.extY y6 (fun k hk => un_right hk) (ob_other (by omega))
      have hF6 : ExtX (tbm tb) w w6 := hF5.then_ y6 fun i hi _ => ob_other (by omega)
      have ht7 := ((ht6.unX (by rw [hidB_X htX])).store y7 (by omega) htb').unbox htX
      exact bodyPost_ret (results_box rfl rfl stLoc r7 rfl) rfl ⟨hF6.tbox y7 hbw, ht7, _, _, rfl⟩
    · by_cases c13 : m4 = 13
      · subst c13
        go_wp2_with fail
        refine (lit_pick (un (hidB X b 1) (some ⟨bo, 0, none⟩)) tb [-1, 1, 4611686018427387904] _ _ _ w4 (-1) 4611686018427387904 ht4 hX4 rfl rfl (by simp) (by simp) (hid (by simp))).mono ?_
        rintro e w5 ⟨hE5, ht5, v5, rfl, _⟩
        have r5 := r4.ext hE5 (tbm_ne (by omega))
        have b5 := b4.ext hE5 (tbm_ne hbt)
        have hF5 := hF4.trans hE5
        clear r4 b4 ht4 hF4 hE5
        go_wp2_with (first
          | ((with_reducible show wpList _ _ _ (⟨_, .store 3 _ _, _, _, _, _⟩ :: _) _ _); refine st_storeCell (v := .int .i64 v5) tyInt rfl rfl rfl rfl r5 (by simp) ?_; intro w6 r6 y6; have b6 := b5.ext y6 (ob_other (by omega)))
          | ((with_reducible show wpList _ _ _ (⟨_, .load 28 _, _, _, _, _⟩ :: _) _ _); refine st_loadBox stLoc rfl r6 rfl ?_)
          | ((with_reducible show wpList _ _ _ (⟨_, .store 28 _ _, _, _, _, _⟩ :: _) _ _); refine st_storeBox stLoc rfl rfl b6 rfl rfl (by simp [Value.oneCell']) ?_; intro w7 r7 y7))
        have ht6 : TapeR (un (hidB X b 1) (some ⟨bo, 0, none⟩)) tb w6 := ht5.extY y6 (fun k hk => un_right hk) (ob_other (by omega))
        have hF6 : ExtX (tbm tb) w w6 := hF5.then_ y6 fun i hi _ => ob_other (by omega)
        have ht7 := ((ht6.unX (by rw [hidB_X htX])).store y7 (by omega) htb').unbox htX
        exact bodyPost_ret (results_box rfl rfl stLoc r7 rfl) rfl ⟨hF6.tbox y7 hbw, ht7, _, _, rfl⟩
      · have q12 : ((m4 : Int) == 12) = false := beqF (by omega)
        have q13 : ((m4 : Int) == 13) = false := beqF (by omega)
        go_wp2_with (first
          | ((with_reducible show wpList _ _ _ (⟨_, .load 28 _, _, _, _, _⟩ :: _) _ _); refine st_loadBox stLoc rfl r4 rfl ?_)
          | ((with_reducible show wpList _ _ _ (⟨_, .store 28 _ _, _, _, _, _⟩ :: _) _ _); refine st_storeBox stLoc rfl rfl b4 rfl rfl (by simp [Value.oneCell']) ?_; intro w7 r7 y7))
        have ht6 := ht4
        have hF6 := hF4
        have ht7 := ((ht6.unX (by rw [hidB_X htX])).store y7 (by omega) htb').unbox htX
        exact bodyPost_ret (results_box rfl rfl stLoc r7 rfl) rfl ⟨hF6.tbox y7 hbw, ht7, _, _, rfl⟩
end Go.Proofs.YtgimdkjgaemcbaaGreat
namespace Go.Proofs.YtgimdkjgaemcbaaGreat
open Go.RowKit Go.Rep Go.Lim Go.Lin
theorem slLoc : SliceT Tryz.prog 55 28 2 16 (.agg #[.int .i64 0, .int .i64 0]) := ⟨Tryz.underlying55, by kernel_rfl⟩
def LocR (_ : Mem) (v : Value) (p : Int × Int) : Prop := v = .agg #[.int .i64 p.1, .int .i64 p.2]
theorem LocR.mono : Mono LocR := fun _ _ _ _ _ h => h
theorem LocR.elem : Elem LocR 2 := by
  refine ⟨LocR.mono, ?_, ?_, by decide⟩
  · rintro h u p rfl; rfl
  · rintro h u p rfl c hc
    simp [cellsL, Value.cells] at hc
    rcases hc with rfl | rfl <;> rfl
theorem LocR.agg : ∀ h u p, LocR h u p -> ∃ cs, u = .agg cs := by
  rintro h u p rfl; exact ⟨_, rfl⟩
theorem bl_ext {tb : Nat} {w w1 w2 : World} (h : w.heap.size <= tb) (hE : Ext w w1) (h2 : ExtX (tbm tb) w1 w2) : Ext w w2 := hE.then_ h2 fun i hi _ => tbm_ne (by omega)
set_option maxRecDepth 100000 in
set_option maxHeartbeats 3200000 in
theorem locs_any (lo : Option Addr) (l : List Int) (cl : Nat) (k t n : Int) (w : World) (hl : Sl (IntIn .i64) 1 w.cell? lo l) (hcl : l.length <= cl) (hlb : l.length <= 9223372036854775807) (hn1 : -9223372036854775808 <= n) (hn2 : n <= 9223372036854775807) :
    Calls Tryz.prog 6 #[.slice lo l.length cl, .agg #[.int .i64 k, .int .i64 t], .int .i64 n] w (BOut w true) := by
  obtain ⟨W, hW, hE0, b0, hz⟩ := boxes1 w #[.int .i64 k, .int .i64 t] 28
  obtain ⟨b, hb⟩ : ∃ b, w.heap.size = b := ⟨_, rfl⟩
  have hbW : W.heap.size = b + 1 := by rw [hz, hb]
  rw [hb] at b0
  have hlW : Sl (IntIn .i64) 1 W.cell? lo l := by
    rw [<- mk_noY] at hl |-
    exact hl.mono (IntIn.mono _) (mk_ext hE0)
  go_enter Tryz.func6, Tryz.ntmps6
  go_wp2_with fail
  refine (tnew_any lo l cl W hlW hcl hlb).mono ?_
  rintro e w1 ⟨rfl, hE1, ht1, hsz1⟩
  obtain ⟨tb, htb⟩ : ∃ tb, W.heap.size = tb := ⟨_, rfl⟩
  have hX1 : HX (tbm tb) w1 := fun k hk => by
    have : k = tb := by simpa [tbm] using hk
    omega
  have hfin := hid (fun w2 (h : ExtX (tbm tb) w1 w2) => bl_ext (w := w) (by omega) (hE0.trans hE1) h)
  rw [htb] at ht1 |-
  have b1 := b0.ext0 hE1
  have hbt : b ≠ tb := by omega
  have hks := hid fun w' (h : ExtX (tbm tb) w1 w') => (⟨(b1.ext h (tbm_ne hbt)).cell 0 rfl, (b1.ext h (tbm_ne hbt)).cell 1 rfl⟩ : w'.cell? ⟨b, 0, none⟩ = some (.int .i64 k) /\ w'.cell? ⟨b, 1, none⟩ = some (.int .i64 t))
  clear hE0 hE1 hsz1 htb hl hlW hW hz b0
  have hEd : Ext w1 w1.drew := (ExtX.refl w1).drew
  have ht0 := ht1.ext hEd
  have hX0 := hX1.ext hEd
  obtain ⟨kd0, kd1⟩ := hks.out _ (.of hEd)
  go_upto_region 2 with fail
  (try simp only [Act.put])
  go_cut [21, 22, 23] from 18 to 23 (fun s q c wx => ∃ (k1 t1 : Int) (g : Option Addr), s = .slice g 2 2 /\ q = .int .i64 2 /\ c = .int .i64 0 /\ ExtX (tbm tb) w1 wx /\ TapeR (tbm tb) tb wx /\ Sl LocR 2 (mk (tbm tb) wx) g [(k1, t1), (k, t)])
  case first =>
    go_region_with (go_at_call 28; refine (tlocation_any (tbm tb) tb w1.drew ht0 hX0).mono ?_; rintro ee wa ⟨hEa, hta, k1, t1, rfl⟩; obtain ⟨ka0, ka1⟩ := hks.out wa ((ExtX.of hEd).trans hEa))
    all_goals
      have hXa := hX0.ext hEa
      have hsl := (OL.lit LocR.elem hXa (Nat.le_refl _) [.agg #[.int .i64 k1, .int .i64 t1], .agg #[.int .i64 k, .int .i64 t]] [(k1, t1), (k, t)] (e := 28) #[.int .i64 k1, .int .i64 t1, .int .i64 k, .int .i64 t] (by simp [cellsL, Value.cells]) rfl (fun i hi hi' => by
        match i, hi, hi' with
        | 0, _, _ => rfl
        | 1, _, _ => rfl) (by simp)).sl LocR.elem
      have hA : Ext wa (wa.alloc (.cells #[.int .i64 k1, .int .i64 t1, .int .i64 k, .int .i64 t] 28)) := (ExtX.refl _).alloc _
      go_wp2_with fail
      go_meet
      case rel => exact ⟨k1, t1, _, rfl, rfl, rfl, (ExtX.of hEd).trans (hEa.trans (.of hA)), hta.ext hA, hsl⟩
  case rest =>
    obtain ⟨k1, t1, g, rfl, rfl, rfl, hEc, htc, hsl⟩ := hcut
    have hXc := hX1.ext hEc
    have hdl := hsl.hd
    obtain ⟨L, hL⟩ : ∃ L : List (Int × Int), [(k1, t1), (k, t)] = L := ⟨_, rfl⟩
    have hLl : L.length = 2 := by rw [<- hL]; rfl
    have hhd : Hd g 2 := hdl
    rw [hL] at hsl hdl
    have hfin2 := hid fun w2 (h : ExtX (tbm tb) wc w2) => hfin.out w2 (hEc.trans h)
    clear hfin hL hEd ht0 hX0 kd0 kd1 hks b1 ht1 hX1 hEc hdl
    go_wp2_with fail
    go_loopw [23] (fun s wr => ∃ i : Nat, s = .int .i64 i /\ i <= 2 /\ TapeR (tbm tb) tb wr /\ ExtX (tbm tb) wc wr) (fun s _ => 2 - (intOf s).toNat)
    case atStart => exact ⟨0, rfl, by decide, htc, ExtX.refl _⟩
    case round =>
      obtain ⟨i, rfl, hi, htr, hE⟩ := hrel
      have hXr : HX (tbm tb) wr := hXc.ext hE
      by_cases hlt : i < 2
      · have hsr : Sl LocR 2 (mk (tbm tb) wr) g L := hsl.mono LocR.mono (mk_mono hE (fun _ h => h))
        have hil : i < L.length := by omega
        have bx := Bx.new wr #[.int .i64 0, .int .i64 0] 28
        obtain ⟨bo, hbo⟩ : ∃ bo, wr.heap.size = bo := ⟨_, rfl⟩
        rw [hbo] at bx
        have htbo : tb < bo := by have := htr.lt; omega
        go_wp2_with (first
          | (with_reducible refine up_ixn slLoc (by omega) (by assumption) ?_)
          | ((with_reducible show wpList _ _ _ (⟨_, .load 28 _, _, _, _, _⟩ :: _) _ _); refine st_loadElem stLoc i hsr hil rfl (by simp) LocR.agg ?_; intro u5 hu5; obtain rfl := hu5)
          | ((with_reducible show wpList _ _ _ (⟨_, .store 28 _ _, _, _, _, _⟩ :: _) _ _); refine st_storeBox stLoc rfl rfl bx rfl rfl (by simp [Value.oneCell']) ?_; intro w3 r3 y3))
        obtain ⟨K, hK⟩ : ∃ K : Int, L[i].fst = K := ⟨_, rfl⟩
        obtain ⟨T, hT⟩ : ∃ T : Int, L[i].snd = T := ⟨_, rfl⟩
        have r3 : Bx w3 bo #[.int .i64 K, .int .i64 T] 28 := by rw [<- hK, <- hT]; exact r3
        rw [hK, hT]
        have hE3 : Ext wr w3 := ExtX.box ((ExtX.refl wr).alloc _) y3 (by omega)
        have ht3 := htr.ext hE3
        refine (next_any (tbm tb) tb 12 w3 ht3 (by omega)).mono ?_
        rintro e w4 ⟨hE4, ht4, m, rfl, hm⟩
        have r4 := r3.ext hE4 (tbm_ne (by omega))
        have hX4 := (hXr.ext hE3).ext hE4
        go_wp2_with fail
        refine (count_any (tbm tb) tb 64 w4 ht4 hX4 (by decide) (by decide)).mono ?_
        rintro e w5 ⟨hE5, ht5, v, rfl, hv1, hv2⟩
        have r5 := r4.ext hE5 (tbm_ne (by omega))
        have hX5 := hX4.ext hE5
        obtain ⟨M, hM⟩ : ∃ M : List Int, [1 + (m : Int), v, n] = M := ⟨_, rfl⟩
        have hMl : M.length = 3 := by rw [<- hM]; rfl
        have hMb := hid (show ∀ x ∈ M, -9223372036854775808 <= x /\ x <= 9223372036854775807 from fun x hx => by
          subst hM
          simp only [List.mem_cons, List.not_mem_nil, or_false] at hx
          rcases hx with rfl | rfl | rfl <;> omega)
        have hls := (lit_sl (tbm tb) w5 [1 + (m : Int), v, n] 3 #[.int .i64 (1 + (m : Int)), .int .i64 v, .int .i64 n] rfl hX5 (by simp)).sl (IntIn.elem .i64)
        have hA : Ext w5 (w5.alloc (.cells #[.int .i64 (1 + (m : Int)), .int .i64 v, .int .i64 n] 3)) := (ExtX.refl _).alloc _
        have hG5 := hid (hE.trans ((ExtX.of hE3).trans (hE4.trans hE5)))
        have hhs := hls.hd
        have hhs3 : Hd (some ⟨w5.heap.size, 0, none⟩) 3 := hhs
        rw [hM] at hls
        clear hK hT hM r3 r4 y3 bx ht3 hsr hE3 hE4 hE5 ht4 hX4 htr hE hXr hm hv1 hv2 hhs
        go_wp2_with fail
        obtain ⟨ga, hga⟩ : ∃ ga : Option Addr, some ⟨w5.heap.size, 0, none⟩ = ga := ⟨_, rfl⟩
        obtain ⟨w6, hw6⟩ : ∃ w6, w5.alloc (.cells #[.int .i64 (1 + (m : Int)), .int .i64 v, .int .i64 n] 3) = w6 := ⟨_, rfl⟩
        rw [hga] at hls hhs3 |-
        rw [hw6] at hls hA |-
        have r6 := r5.ext0 hA
        have ht6 := ht5.ext hA
        clear r5 ht5 hga hw6
        go_loopw [35] (fun s wq => ∃ j : Nat, s = .int .i64 j /\ j <= 3 /\ Ext w6 wq) (fun s _ => 3 - (intOf s).toNat)
        case atStart => exact ⟨0, rfl, by decide, ExtX.refl _⟩
        case round =>
          obtain ⟨j, rfl, hj, hE⟩ := hrel
          by_cases hlj : j < 3
          · have his : j < M.length := by omega
            have hcc := (hls.mono (IntIn.mono _) (mk_mono (ExtX.of hE) (fun _ h => h))).int j his
            obtain ⟨q1, q2⟩ := hMb.out M[j] (List.getElem_mem _)
            obtain ⟨Q, hQ⟩ : ∃ Q, M[j] = Q := ⟨_, rfl⟩
            rw [hQ] at hcc q1 q2
            have rq := r6.ext0 hE
            have hb1 := hid fun w' => blocation w' K T Q q1 q2
            have hb2 := hid fun w' => rlocation35 w' K T Q q1 q2
            go_wp2_with (first
              | (with_reducible refine up_ix1 slInt (by omega) (by assumption) ?_)
              | ((with_reducible show wpList _ _ _ (⟨_, .load 28 _, _, _, _, _⟩ :: _) _ _); refine st_loadBox stLoc rfl rq rfl ?_)
              | (go_at_call 35; refine (hb1.out _).mono ?_; rintro ee w7 ⟨hE7, rfl⟩; have rq := rq.ext0 hE7)
              | (go_at_call 36; refine (hb2.out _).mono ?_; rintro ee w8 ⟨hE8, rfl⟩))
            go_roundw
            case rel => exact ⟨j + 1, by go_num, by omega, hE.trans (hE7.trans hE8)⟩
            case measure => simp [intOf]; omega
          · go_wp2_with fail
            go_roundw
            case rel => exact ⟨i + 1, by go_num, by omega, ht6.ext hE, hG5.out.trans (ExtX.of (hA.trans hE))⟩
            case measure => simp [intOf]; omega
      · have hlast := awake35_any wr
        go_wp2_with (first | (go_at_call 37; refine hlast.mono ?_; rintro ee w6 ⟨hE6, rfl⟩))
        go_ret
        exact ⟨hfin2.out _ (hE.trans (.of hE6)), rfl⟩
end Go.Proofs.YtgimdkjgaemcbaaGreat
namespace Go.Proofs.YtgimdkjgaemcbaaGreat
open Go.ChangeShapes Go.WideShapes Go.ChangeAt Go.RowKit Go.Rep Go.Deep Go.Lim
section
variable {H : Type} {enc : TypeId × Value -> H} {w : World} {base : Nat} {spare : Nat -> Bool} {held : Bool}
theorem two_cells {l : List Value} (h : l.length = 2) : ∃ a b, l = [a, b] := by
  match l, h with
  | [a, b], _ => exact ⟨a, b, rfl⟩
set_option maxRecDepth 100000 in
theorem loc_of {r : Reach} {b0 : Nat} {v : Value} {d : DataW H} {ps : List MemPlace} (hval : Value.okWide Tryz.prog w r b0 28 v) (h : DataW.Trod enc Tryz.prog w base spare held 28 v d ps) :
    ∃ N K : Int, v = .agg #[.int .i64 N, .int .i64 K] := by
  obtain ⟨cs, rfl, hcs⟩ := okWide_struct Tryz.underlying28 hval
  obtain ⟨fuel, g⟩ := h
  have e0 : Tryz.prog.cellsOf 28 = 2 := by kernel_rfl
  rw [e0] at hcs
  have g2 : DataW.trod enc Tryz.prog w base spare held fuel 28 cs.toList = some (d, ps) := by simpa only [Value.cells] using g
  obtain ⟨c0, c1, hcl⟩ := two_cells (l := cs.toList) (by rw [Array.length_toList]; exact hcs)
  rw [hcl] at g2
  obtain ⟨y0, y1, n, _, _, h0, h1⟩ := Go.ChangeShapes.trod_struct2 Tryz.underlying28 g2
  have e1 : Tryz.prog.cellsOf 3 = 1 := by kernel_rfl
  have g0 : DataW.trod enc Tryz.prog w base spare held n 3 (([c0, c1].drop 0).take (Tryz.prog.cellsOf 3)) = some y0 := h0
  have g1 : DataW.trod enc Tryz.prog w base spare held n 3 (([c0, c1].drop 1).take (Tryz.prog.cellsOf 3)) = some y1 := h1
  rw [e1] at g0 g1
  obtain ⟨N, hN, _, _⟩ := DataW.trod_int Tryz.underlying3 g0
  obtain ⟨K, hK, _, _⟩ := DataW.trod_int Tryz.underlying3 g1
  have hN2 : c0 = .int .i64 N := by simpa using hN
  have hK2 : c1 = .int .i64 K := by simpa using hK
  subst hN2 hK2
  exact ⟨N, K, congrArg Value.agg (Array.toList_inj.1 hcl)⟩
end
end Go.Proofs.YtgimdkjgaemcbaaGreat
