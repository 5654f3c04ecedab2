/- The tape of choices: numbers that may not be valid, rows of them. What is drawn is some number of few digits. Conditions: none beyond small ranges. reference 03: TakeList. Conditions: at most 2^20 numbers of at most 2^36 digits. reference 06: Times, Plus. Conditions: at most 2^20 numbers of at most 2^36 digits. made: Mod, At, Number. Conditions: none but Go's own. made: Number, Matrix. Conditions: few rows and columns. reference 06: Take; made: Matrix, Vector, Sum. Conditions: at most 2^20 rows and columns. Matrices that a call has made itself, row by row, and writes into: what they are, and what each step leaves of them. Conditions: none. Stores into rows and matrices that a call has made itself, as the walk writes them; readings beside them. Conditions: none. The tape of choices: points. What is drawn is some list of rows of few digits. Conditions: none beyond small ranges. A drawn region whose last operation waits for all others: the loads are taken first under a condition that need not hold behind the last operation. Conditions: none. The tape of choices: lists of rows that may be no points. What is drawn is some list of rows of few digits. Conditions: none beyond small ranges. The tape of choices: a point for points. What is drawn is some row of few digits. Conditions: none beyond small ranges. exact: Minus. Conditions: at most 10^6 numbers of at most 2^36 digits. Sums, row operations, and the reduced form of a matrix, which is unique. Conditions: none. -/
import Derived.Test.YtjbhcniiioepgaaGreatDpE
import Derived.Deep.RegionHeld3
import Derived.OrdersHeld
import Derived.StillTail
import Derived.Deep.RegionHeld
import Derived.WalkKit
namespace Go.Proofs.YtjbhcniiioepgaaGreat
open Go.RowKit Go.Rep Go.Lim
theorem dig_one (n : Nat) (h : n < 100) : Dig [n] := fun x hx => by
  have : x = n := by simpa using hx
  subst this; have := B_eq; omega
theorem NatIn.lit1 (X : Nat → Bool) (w : World) (n : Nat) (e : TypeId) (hX : HX X w) : Sl (NatIn .u32) 1 (mk X (w.alloc (.cells #[.int .u32 (n : Int)] e))) (some ⟨w.heap.size, 0, none⟩) [n] :=
  (OL.lit (NatIn.elem .u32) hX (Nat.le_refl _) [.int .u32 (n : Int)] [n] _ (by simp [cellsL, Value.cells]) rfl (fun i hi _ => by
    have : i = 0 := by simpa using hi
    subst this; rfl) (by simp)).sl (NatIn.elem _)
theorem qv_parts {h : Mem} {s : Bool} {ma da : Option Addr} {mc dc : Nat} {m d : List Nat} (hm : Sl (NatIn .u32) 1 h ma m) (hd : Sl (NatIn .u32) 1 h da d) (hmc : m.length ≤ mc) (hdc : d.length ≤ dc) (hmd : Dig m) (hdd : Dig d) (hml : m.length ≤ 3) (hdl : d.length ≤ 3) :
    ∃ q, QV h (.agg #[.bool s, .slice ma m.length mc, .slice da d.length dc]) q ∧ hq q ≤ 3 :=
  ⟨_, ⟨s, ma, mc, m, da, dc, d, rfl, hmc, hdc, hmd, hdd, by omega, by omega, hm, hd, rfl⟩, qval_hq s m d 3 hmd hdd hml hdl (by omega)⟩

set_option maxRecDepth 100000 in
set_option maxHeartbeats 1600000 in
theorem todd_any (X : Nat → Bool) (tb : Nat) (w : World) (ht : TapeR X tb w) (hX : HX X w) : Calls Tryz.prog 65 #[.pointer (some ⟨tb, 0, none⟩)] w (TQOut X tb QV 3 w) := by
  have htb := ht.lt
  have htX := ht.1
  obtain ⟨W, hW, hE, b0, hz⟩ := boxes1 w #[.bool false, .slice none 0 0, .slice none 0 0] 31
  have hXW : HX (hidB X w.heap.size 1) W := hX.boxes hz
  have htW : TapeR (hidB X w.heap.size 1) tb W := ht.box hE
  obtain ⟨b, hb⟩ : ∃ b, w.heap.size = b := ⟨_, rfl⟩
  have hbw : w.heap.size ≤ b := by omega
  have htb' : tb ≠ b := by omega
  have hbt : b ≠ tb := by omega
  rw [hb] at b0 hz hXW htW
  have hEb : ExtX (tbm tb) w W := ExtX.of hE
  clear hE
  go_enter Tryz.func65, Tryz.ntmps65
  go_wp2_with fail
  refine (trat_any (hidB X b 1) tb _ htW hXW).mono ?_
  rintro e w1 ⟨hE1, ht1, u1, q, rfl, hu1, hq1⟩
  obtain ⟨s, ma, mc, m, da, dc, d, rfl, hmc, hdc, hcq, hms, hds⟩ := hu1
  have hmd : Dig m := hcq.1.2.1
  have hdd : Dig d := hcq.2.1
  have hml : m.length ≤ 2 := by have := hq_num q; rw [hcq.1.len]; omega
  have hdl : d.length ≤ 2 := by have := hq_dn q; rw [hcq.2.len]; omega
  have b1 := b0.ext hE1 (tbm_ne hbt)
  have hX1 := hXW.ext hE1
  have hF1 := hEb.trans hE1
  have hz1 := hE1.size
  have bx := Bx.new w1 #[.bool false, .slice none 0 0, .slice none 0 0] 31
  obtain ⟨bo, hbo⟩ : ∃ bo, w1.heap.size = bo := ⟨_, rfl⟩
  rw [hbo] at bx
  have hbnew : ∀ j, j < w1.heap.size → ob (some ⟨bo, 0, none⟩) j = false := fun j hj => ob_other (by omega)
  have hbob : b < bo := by have := b1.lt; omega
  have htbo : tb < bo := by have := ht1.lt; omega
  clear b0 hXW htW hEb hcq hz
  go_wp2_with ((with_reducible show wpList _ _ _ (⟨_, .store 31 _ _, _, _, _, _⟩ :: _) _ _); refine st_storeBox stRat rfl rfl bx rfl rfl (one3 _ _ _ _ _ _ _) ?_; intro w2 r1 r2)
  have hE2 : Ext w1 w2 := ExtX.box ((ExtX.refl w1).alloc _) r2 (by omega)
  have ht2 : TapeR (un (hidB X b 1) (some ⟨bo, 0, none⟩)) tb w2 := ht1.old hE2 hbnew
  have hms2 := hms.old (oo := some ⟨bo, 0, none⟩) (NatIn.mono _) hE2 hbnew
  have hds2 := hds.old (oo := some ⟨bo, 0, none⟩) (NatIn.mono _) hE2 hbnew
  have hX2 : HX (un (hidB X b 1) (some ⟨bo, 0, none⟩)) w2 := fun k hk => by
    by_cases hx : hidB X b 1 k = true
    · exact hX1.ext hE2 k hx
    · have : bo = k := by simpa [un, hx, ob] using hk
      have := r1.lt
      omega
  have b2 := b1.ext0 hE2
  have hF2 := hF1.trans (ExtX.of hE2)
  clear bx hms hds ht1 hE1 hE2 hX1 hF1
  refine (next_any (un (hidB X b 1) (some ⟨bo, 0, none⟩)) tb 24 _ ht2 (by omega)).mono ?_
  rintro e w3 ⟨hE3, ht3, k, rfl, hk⟩
  have hsub := tbm_sub ht3.1
  have hms3 := hms2.mono (NatIn.mono _) (mk_mono hE3 hsub)
  have hds3 := hds2.mono (NatIn.mono _) (mk_mono hE3 hsub)
  have hX3 := hX2.ext hE3
  have b3 := b2.ext hE3 (tbm_ne hbt)
  have r3 := r1.ext hE3 (tbm_ne (by omega))
  have hF3 := hF2.trans hE3
  have hz3 := r3.lt
  clear hms2 hds2 hX2 b2 r1 r2 hF2 ht2 hE3 hbnew hz1
  have hdone : Hid (∀ (wz w7 : World) (s : Bool) (ma da : Option Addr) (mc dc : Nat) (m d : List Nat), ExtX (tbm tb) w wz → TapeR (un (hidB X b 1) (some ⟨bo, 0, none⟩)) tb wz → Sl (NatIn .u32) 1 (mk (un (hidB X b 1) (some ⟨bo, 0, none⟩)) wz) ma m → Sl (NatIn .u32) 1 (mk (un (hidB X b 1) (some ⟨bo, 0, none⟩)) wz) da d → m.length ≤ mc → d.length ≤ dc → Dig m → Dig d → m.length ≤ 3 → d.length ≤ 3 → ExtX (ob (some ⟨b, 0, none⟩)) wz w7 → TQOut X tb QV 3 w (.returned (.agg #[.bool s, .slice ma m.length mc, .slice da d.length dc])) w7) := hid fun wz w7 s ma da mc dc m d g1 g2 g3 g4 g5 g6 g7 g8 g9 g10 g11 => by
    have hle : Le (mk (un (hidB X b 1) (some ⟨bo, 0, none⟩)) wz) (mk X w7) := by
      refine mk_over g11 (fun j hj hk => ?_) (fun j _ hk => un_left (hidB_X hk))
      have : b = j := by simpa [ob] using hk
      subst this
      exact un_left (hidB_in (Nat.le_refl _) (by omega))
    obtain ⟨q, p1, p2⟩ := qv_parts (s := s) (g3.mono (NatIn.mono _) hle) (g4.mono (NatIn.mono _) hle) g5 g6 g7 g8 g9 g10
    have t1 : TapeR X tb w7 := by
      have hlt := g2.lt
      obtain ⟨_, lo, l, cap, at_, h1, h2, h3, h4⟩ := g2
      exact ⟨htX, lo, l, cap, at_, by rw [g11.block tb hlt (ob_other htb')]; exact h1, h2, h3, h4.mono (IntIn.mono _) hle⟩
    exact ⟨g1.tbox g11 hbw, t1, _, q, rfl, p1, p2⟩
  have hcase : k < 20 ∨ k = 20 ∨ k = 21 ∨ k = 22 ∨ k = 23 := by omega
  rcases hcase with h | rfl | rfl | rfl | rfl
  · have k0 := r3.cell 0 rfl
    have k1 := r3.cell 1 rfl
    have k2 := r3.cell 2 rfl
    have t20 : ((k : Int) == 20) = false := beqF (by omega)
    have t21 : ((k : Int) == 21) = false := beqF (by omega)
    have t22 : ((k : Int) == 22) = false := beqF (by omega)
    have t23 : ((k : Int) == 23) = false := beqF (by omega)
    go_wp2_with ((with_reducible show wpList _ _ _ (⟨_, .store 31 _ _, _, _, _, _⟩ :: _) _ _); refine st_storeBox stRat rfl rfl b3 rfl rfl (one3 _ _ _ _ _ _ _) ?_; intro w7 r1 r2)
    exact bodyPost_ret (results_box rfl rfl stRat r1 rfl) rfl (hdone.out w3 w7 _ _ _ _ _ _ _ hF3 ht3 hms3 hds3 hmc hdc hmd hdd (by omega) (by omega) r2)
  · have hEa : Ext w3 (w3.alloc (.cells #[.int .u32 1] 123)) := (ExtX.refl _).alloc _
    have r4 := r3.ext0 hEa
    have hdn := NatIn.lit1 (un (hidB X b 1) (some ⟨bo, 0, none⟩)) w3 1 123 hX3
    have k2 := r4.cell 2 rfl
    have f2 := r4.frozen 2
    obtain ⟨g1, g2⟩ := setCell_block r4 (.slice (some ⟨w3.heap.size, 0, none⟩) 1 1) (i := 2) (by simp)
    obtain ⟨w5, hw5⟩ : ∃ w5, (w3.alloc (.cells #[.int .u32 1] 123)).setCell ⟨bo, 2, none⟩ (.slice (some ⟨w3.heap.size, 0, none⟩) 1 1) = w5 := ⟨_, rfl⟩
    rw [hw5] at g1 g2
    have k0 : w5.cell? ⟨bo, 0, none⟩ = some (.bool s) := g1.cell 0 rfl
    have k1 : w5.cell? ⟨bo, 1, none⟩ = some (.slice ma m.length mc) := g1.cell 1 rfl
    have k5 : w5.cell? ⟨bo, 2, none⟩ = some (.slice (some ⟨w3.heap.size, 0, none⟩) 1 1) := g1.cell 2 rfl
    have hE5 : ExtX (ob (some ⟨bo, 0, none⟩)) w3 w5 := (ExtX.of hEa).trans g2
    have hle : Le (mk (un (hidB X b 1) (some ⟨bo, 0, none⟩)) w3) (mk (un (hidB X b 1) (some ⟨bo, 0, none⟩)) w5) := mk_mono hE5 fun _ hk => un_right hk
    have hle2 : Le (mk (un (hidB X b 1) (some ⟨bo, 0, none⟩)) (w3.alloc (.cells #[.int .u32 1] 123))) (mk (un (hidB X b 1) (some ⟨bo, 0, none⟩)) w5) := mk_mono g2 fun _ hk => un_right hk
    have b5 := (b3.ext0 hEa).ext g2 (ob_other (by omega))
    have hfin := hid (hdone.out w5 · s ma (some ⟨w3.heap.size, 0, none⟩) mc 1 m [1] (hF3.tbox hE5 (by omega)) (ht3.extY hE5 (fun _ hk => un_right hk) (ob_other (by omega))) (hms3.mono (NatIn.mono _) hle) (hdn.mono (NatIn.mono _) hle2) hmc (by simp) hmd (dig_one 1 (by omega)) (by omega) (by simp))
    go_wp2_with (first | ((with_reducible show wpList _ _ _ (⟨_, .store 27 _ _, _, _, _, _⟩ :: _) _ _); refine st_cell tyU32s rfl rfl rfl rfl k2 f2 ?_; rw [hw5]; clear k2 f2) | ((with_reducible show wpList _ _ _ (⟨_, .store 31 _ _, _, _, _, _⟩ :: _) _ _); refine st_storeBox stRat rfl rfl b5 rfl rfl (one3 _ _ _ _ _ _ _) ?_; intro w7 r1 r2))
    exact bodyPost_ret (results_box rfl rfl stRat r1 rfl) rfl (hfin.out w7 r2)
  · have k1 := r3.cell 1 rfl
    have h0 := hid (show Sl (NatIn .u32) 1 (mk (un (un (hidB X b 1) (some ⟨bo, 0, none⟩)) none) w3) ma m from by rw [un_none]; exact hms3)
    go_wp2_with (first
      | (at_builtin; refine st_appendl (l := ([] : List Nat)) slU32 rfl (NatIn.elem .u32) (Nat.le_refl w3.heap.size) hX3 m rfl rfl (OL.nil _ _ _ _ _ _) h0.out (by simp; omega) (by simp; omega) ?_; intro oo4 co4 w4 hO4 hE4 hor4; have hE34 : Ext w3 w4 := hE4.weaken (fun _ _ _ => rfl); have hX4 := hX3.ext hE34; have hb4 := hE34.size)
      | (at_builtin; refine st_append1 (l := [] ++ m) slU32 rfl (NatIn.elem .u32) hb4 hX4 rfl rfl hO4 (.int .u32 0) 0 rfl rfl (by simp; omega) (by simp; omega) ?_; intro oo5 co5 w5 hO5 hE5 hor5; have hE35 : Ext w3 w5 := hE34.own hO4 (Nat.le_refl _) hE5; have r5 := r3.ext0 hE35; have k2 := r5.cell 1 rfl; have f2 := r5.frozen 1; obtain ⟨g1, g2⟩ := setCell_block r5 (.slice oo5 (m.length + 1) co5) (i := 1) (by simp); obtain ⟨w6, hw6⟩ : ∃ w6, w5.setCell ⟨bo, 1, none⟩ (.slice oo5 (m.length + 1) co5) = w6 := ⟨_, rfl⟩; rw [hw6] at g1 g2; have q0 : w6.cell? ⟨bo, 0, none⟩ = some (.bool s) := g1.cell 0 rfl; have q1 : w6.cell? ⟨bo, 1, none⟩ = some (.slice oo5 (m.length + 1) co5) := g1.cell 1 rfl; have q2 : w6.cell? ⟨bo, 2, none⟩ = some (.slice da d.length dc) := g1.cell 2 rfl; have b6 := (b3.ext0 hE35).ext g2 (ob_other (by omega)))
      | ((with_reducible show wpList _ _ _ (⟨_, .store 31 _ _, _, _, _, _⟩ :: _) _ _); refine st_storeBox stRat rfl rfl b6 rfl rfl (one3 _ _ _ _ _ _ _) ?_; intro w7 r1 r2))
    have hE6 : ExtX (ob (some ⟨bo, 0, none⟩)) w3 w6 := (ExtX.of hE35).trans g2
    have hle : Le (mk (un (hidB X b 1) (some ⟨bo, 0, none⟩)) w3) (mk (un (hidB X b 1) (some ⟨bo, 0, none⟩)) w6) := mk_mono hE6 fun _ hk => un_right hk
    have hle2 : Le (mk (un (hidB X b 1) (some ⟨bo, 0, none⟩)) w5) (mk (un (hidB X b 1) (some ⟨bo, 0, none⟩)) w6) := mk_mono g2 fun _ hk => un_right hk
    have hc5 := hO5.lenCap
    have hlen : ([] ++ m ++ [0]).length = m.length + 1 := by simp
    rw [hlen] at hc5
    have hfin := hdone.out w6 w7 s oo5 da co5 dc ([] ++ m ++ [0]) d (hF3.tbox hE6 (by omega)) (ht3.extY hE6 (fun _ hk => un_right hk) (ob_other (by omega))) ((hO5.sl (NatIn.elem _)).mono (NatIn.mono _) hle2) (hds3.mono (NatIn.mono _) hle) (by rw [hlen]; exact hc5) hdc (fun x hx => by
      rcases List.mem_append.1 hx with h | h
      · exact hmd x (by simpa using h)
      · rw [List.mem_singleton.1 h]; exact B_pos) hdd (by simp; omega) (by omega) r2
    rw [hlen] at hfin
    exact bodyPost_ret (results_box rfl rfl stRat r1 rfl) rfl hfin
  · go_wp2_with ((with_reducible show wpList _ _ _ (⟨_, .store 31 _ _, _, _, _, _⟩ :: _) _ _); refine st_storeBox stRat rfl rfl b3 rfl rfl (one3 _ _ _ _ _ _ _) ?_; intro w7 r1 r2)
    exact bodyPost_ret (results_box rfl rfl stRat r1 rfl) rfl (hdone.out w3 w7 true none none 0 0 [] [] hF3 ht3 (Sl.nil _ _ _ _) (Sl.nil _ _ _ _) (by simp) (by simp) (fun x hx => by simp at hx) (fun x hx => by simp at hx) (by simp) (by simp) r2)
  · obtain ⟨w4, hw4⟩ : ∃ w4, w3.alloc (.cells #[.int .u32 2] 123) = w4 := ⟨_, rfl⟩
    have hE4 : Ext w3 w4 := by rw [← hw4]; exact (ExtX.refl _).alloc _
    have hz4 : w4.heap.size = w3.heap.size + 1 := by rw [← hw4]; simp
    have hX4 := hX3.ext hE4
    have hm2 := NatIn.lit1 (un (hidB X b 1) (some ⟨bo, 0, none⟩)) w3 2 123 hX3
    have hd4 := NatIn.lit1 (un (hidB X b 1) (some ⟨bo, 0, none⟩)) w4 4 123 hX4
    rw [show ((2 : Nat) : Int) = 2 from rfl, hw4] at hm2
    rw [show ((4 : Nat) : Int) = 4 from rfl] at hd4
    obtain ⟨w5, hw5⟩ : ∃ w5, w4.alloc (.cells #[.int .u32 4] 123) = w5 := ⟨_, rfl⟩
    have hE5 : Ext w4 w5 := by rw [← hw5]; exact (ExtX.refl _).alloc _
    rw [hw5, hz4] at hd4
    have hm5 := hm2.mono (NatIn.mono _) (mk_ext hE5)
    have hE35 : Ext w3 w5 := hE4.trans hE5
    have b5 := b3.ext0 hE35
    have hfin := hid (hdone.out w5 · false (some ⟨w3.heap.size, 0, none⟩) (some ⟨w3.heap.size + 1, 0, none⟩) 1 1 [2] [4] (hF3.trans (ExtX.of hE35)) (ht3.ext hE35) hm5 hd4 (by simp) (by simp) (dig_one 2 (by omega)) (dig_one 4 (by omega)) (by simp) (by simp))
    clear hE4 hX4 hm2 hd4 hE5 hm5 hE35
    go_wp2_with ((with_reducible show wpList _ _ _ (⟨_, .store 31 _ _, _, _, _, _⟩ :: _) _ _); refine st_storeBox stRat rfl rfl b5 rfl rfl (one3 _ _ _ _ _ _ _) ?_; intro w7 r1 r2)
    exact bodyPost_ret (results_box rfl rfl stRat r1 rfl) rfl (hfin.out w7 r2)

theorem toddrow_any (X : Nat → Bool) (tb n : Nat) (w : World) (ht : TapeR X tb w) (hX : HX X w) (hn : n ≤ 1000) :
    Calls Tryz.prog 29 #[.pointer (some ⟨tb, 0, none⟩), .int .i64 (n : Int)] w (TRowOut X tb QV 3 n w) := by
  have hsub := tbm_sub ht.1
  go_enter Tryz.func29, Tryz.ntmps29
  go_wp2_with fail
  go_loopw [5, 6] (fun s c wr => ∃ (i : Nat) (oo : Option Addr) (co : Nat) (l : List Rat), c = .int .i64 i ∧ s = .slice oo i co ∧ l.length = i ∧ i ≤ n ∧ BR 3 l ∧ OL QV 3 X w.heap.size 31 wr oo co l ∧ TapeR (un X oo) tb wr ∧ ExtX (tbm tb) w wr) (fun _ c _ => n - (intOf c).toNat)
  case atStart => exact ⟨0, none, 0, [], rfl, rfl, rfl, Nat.zero_le _, fun x hx => by simp at hx, OL.nil _ _ _ _ _ _, ht.none, ExtX.refl _⟩
  case round =>
    obtain ⟨i, oo, co, l, rfl, rfl, hli, hin, hB, hO, htr, hE⟩ := hrel
    have hXr : HX X wr := hX.ext hE
    by_cases hlt : i < n
    · have hXu : HX (un X oo) wr := hO.unX hXr
      have hln := hid hli
      clear hli
      go_wp2_with fail
      refine (todd_any (un X oo) tb _ htr hXu).mono ?_
      rintro e w2 ⟨hE2, ht2, u6, q, rfl, hu6, hq6⟩
      obtain ⟨s6, a6, n6, c6, d6, k6, e6, rfl⟩ := hu6.shape
      have hO2 := hO.ext QV.elem hE2 (fun k _ hk => hsub k hk) (fun _ _ h => h)
      have hX2 : HX X w2 := hXr.ext hE2
      have hE3 := hE.trans hE2
      have hbase := hE3.size
      clear hO htr hE hE2 hXr hXu
      go_wp2_with (at_builtin; refine st_append1n (l := l) slRat rfl QV.elem (by omega) hX2 i hln.out rfl rfl hO2 (.agg #[.bool s6, .slice a6 n6 c6, .slice d6 k6 e6]) q rfl hu6 (by omega) (by omega) ?_; intro oo2 co2 w7 hO7 hE7 hor)
      have hE8 := hE3.own hO2 (Nat.le_refl _) hE7
      have ht3 := ht2.unstep (hO2.not_ob ht.1) hE7 hor
      have hB2 : BR 3 (l ++ [q]) := fun x hx => by
        rcases List.mem_append.1 hx with h | h
        · exact hB x h
        · rw [List.mem_singleton.1 h]; exact hq6
      have hl2 : (l ++ [q]).length = i + 1 := by rw [List.length_append, hln.out]; rfl
      go_roundw
      case rel => exact ⟨i + 1, oo2, co2, _, by go_num, by go_num, hl2, by omega, hB2, hO7, ht3, hE8⟩
      case measure => simp [intOf]; omega
    · have hil : i = n := by omega
      subst hil
      have hc := hO.lenCap
      rw [hli] at hc
      go_wp2_with fail
      go_ret
      exact ⟨hE, oo, l, co, rfl, hli, hc, hB, htr, hO⟩
end Go.Proofs.YtjbhcniiioepgaaGreat


namespace Go.Proofs.YtjbhcniiioepgaaGreat
open Go.RowKit Go.Rep Go.Lim

theorem take_snoc {α : Type} (l : List α) (i : Nat) (h : i < l.length) : l.take i ++ [l[i]] = l.take (i + 1) := by
  rw [List.take_add_one, List.getElem?_eq_getElem h]; rfl
theorem len_take {α : Type} {l : List α} {i : Nat} (h : i ≤ l.length) : (l.take i).length = i := by simp; omega

end Go.Proofs.YtjbhcniiioepgaaGreat


namespace Go.Proofs.YtjbhcniiioepgaaGreat
open Go.RowKit Go.Rep Go.Lim

end Go.Proofs.YtjbhcniiioepgaaGreat


namespace Go.Lin
open Go.Lim
end Go.Lin
namespace Go.Proofs.YtjbhcniiioepgaaGreat
open Go.RowKit Go.Rep Go.Lim Go.Lin

end Go.Proofs.YtjbhcniiioepgaaGreat


namespace Go.Proofs.YtjbhcniiioepgaaGreat
open Go.RowKit Go.Rep Go.Lim Go.Lin

end Go.Proofs.YtjbhcniiioepgaaGreat


namespace Go.Proofs.YtjbhcniiioepgaaGreat
open Go.RowKit Go.Rep Go.Lim Go.Lin

end Go.Proofs.YtjbhcniiioepgaaGreat


namespace Go.Rep
open Go.RowKit Go.Lim
/-- A slice's header: its address, length, capacity. -/
abbrev Hdr := Option Addr × Nat × Nat
def HdR : Mem → Value → Hdr → Prop := fun _ u x => u = .slice x.1 x.2.1 x.2.2
theorem HdR.elem : Elem HdR 1 := ⟨fun _ _ _ _ _ h => h, by rintro h u x rfl; rfl, by
  rintro h u x rfl c hc; simp [cellsL, Value.cells] at hc; subst hc; rfl, Nat.one_pos⟩
theorem HdR.one : OneCell HdR := by rintro h u x rfl; rfl
/-- What a step that turns other blocks leaves of a list of plain values. -/
theorem OL.frame {α : Type} {R : Mem → Value → α → Prop} {sz : Nat} {X : Nat → Bool} {base : Nat} {e : TypeId} {w w' : World} {ao : Option Addr} {cap : Nat} {l : List α} (hR0 : ∀ h h' u x, R h u x → R h' u x) {Y Z : Nat → Bool} (h : OL R sz X base e w ao cap l) (hE : ExtX Y w w') (hY : ∀ k, ob ao k = true → Y k = false) (hZ : ∀ k, ob ao k = true → Z k = false) : OL R sz Z base e w' ao cap l := by
  have hb := fun k (hk : ob ao k = true) => h.block hk
  obtain ⟨hx, us, h1, h2, h22, h3, h5⟩ := h
  refine ⟨hZ, us, h1, h2, h22, ?_, fun i hi hi' => hR0 _ _ _ _ (h5 i hi hi')⟩
  refine ⟨h3.1, ?_⟩
  rcases h3.2 with h4 | ⟨g, c, cur, hv, h6, h7, h8⟩
  · exact .inl h4
  · refine .inr ⟨g, c, cur, hv, h6, ?_, h8⟩
    simp at hv
    obtain ⟨rfl, rfl⟩ := hv
    have hk : ob (some ⟨g, 0, none⟩) g = true := by simp [ob]
    rw [hE.block g (hb g hk).2 (hY g hk), h7]
/-- A mask without the blocks of one slice. -/
def cut (Z : Nat → Bool) (ao : Option Addr) : Nat → Bool := fun k => Z k && !ob ao k
theorem cut_of {Z : Nat → Bool} {ao : Option Addr} {k : Nat} (h : cut Z ao k = true) : Z k = true ∧ ob ao k = false := by simpa [cut] using h
theorem cut_mk {Z : Nat → Bool} {ao : Option Addr} {k : Nat} (h : Z k = true) (h2 : ob ao k = false) : cut Z ao k = true := by simp [cut, h, h2]
/-- The blocks of all rows. -/
def obs (hs : List Hdr) : Nat → Bool := fun k => hs.any fun h => ob h.1 k
theorem obs_get {hs : List Hdr} {i : Nat} (hi : i < hs.length) {k : Nat} (h : ob hs[i].1 k = true) : obs hs k = true := by
  unfold obs; rw [List.any_eq_true]; exact ⟨_, List.getElem_mem hi, h⟩
theorem obs_of {hs : List Hdr} {k : Nat} (h : obs hs k = true) : ∃ i, ∃ hi : i < hs.length, ob hs[i].1 k = true := by
  unfold obs at h; rw [List.any_eq_true] at h
  obtain ⟨x, hx, h2⟩ := h
  obtain ⟨i, hi, rfl⟩ := List.getElem_of_mem hx
  exact ⟨i, hi, h2⟩
/-- All blocks of a matrix, and those of X. -/
def mz (X : Nat → Bool) (ao : Option Addr) (hs : List Hdr) : Nat → Bool := fun k => X k || ob ao k || obs hs k
/-- The blocks of a matrix. -/
def mb (ao : Option Addr) (hs : List Hdr) : Nat → Bool := fun k => ob ao k || obs hs k
theorem mz_iff {X : Nat → Bool} {ao : Option Addr} {hs : List Hdr} {k : Nat} : mz X ao hs k = true ↔ X k = true ∨ ob ao k = true ∨ obs hs k = true := by simp [mz, or_assoc]
theorem mb_iff {ao : Option Addr} {hs : List Hdr} {k : Nat} : mb ao hs k = true ↔ ob ao k = true ∨ obs hs k = true := by simp [mb]

/-- The matrix m lies in slices that the call itself made: the outer one holds the rows' headers hs; the numbers are read outside of all of them and of X. -/
structure MO (X : Nat → Bool) (base : Nat) (e1 e2 : TypeId) (w : World) (ao : Option Addr) (cap : Nat) (hs : List Hdr) (m : List (List Rat)) : Prop where
  outer : OL HdR 1 X base e1 w ao cap hs
  len : hs.length = m.length
  rlen : ∀ i (hi : i < hs.length) (hi' : i < m.length), hs[i].2.1 = m[i].length
  row : ∀ i (hi : i < hs.length) (hi' : i < m.length), OL QC 3 (cut (mz X ao hs) hs[i].1) base e2 w hs[i].1 hs[i].2.2 m[i]
  sep : ∀ i (hi : i < hs.length) k, ob hs[i].1 k = true → X k = false ∧ ob ao k = false
  dis : ∀ i j (hi : i < hs.length) (hj : j < hs.length), i ≠ j → ∀ k, ob hs[i].1 k = true → ob hs[j].1 k = false

section
variable {X : Nat → Bool} {base : Nat} {e1 e2 : TypeId} {w w' : World} {ao : Option Addr} {cap : Nat} {hs : List Hdr} {m : List (List Rat)}
theorem MO.out_sep (h : MO X base e1 e2 w ao cap hs m) {k : Nat} (hk : ob ao k = true) : X k = false ∧ obs hs k = false := by
  refine ⟨h.outer.1 k hk, ?_⟩
  cases ho : obs hs k
  · rfl
  · obtain ⟨i, hi, h2⟩ := obs_of ho
    have := (h.sep i hi k h2).2
    rw [hk] at this; simp at this
theorem MO.obs_sep (h : MO X base e1 e2 w ao cap hs m) {k : Nat} (hk : obs hs k = true) : X k = false ∧ ob ao k = false := by
  obtain ⟨i, hi, h2⟩ := obs_of hk
  exact h.sep i hi k h2
theorem MO.mb_X (h : MO X base e1 e2 w ao cap hs m) {k : Nat} (hk : mb ao hs k = true) : X k = false := by
  rcases mb_iff.1 hk with a | a
  · exact (h.out_sep a).1
  · exact (h.obs_sep a).1
theorem MO.mb_block (h : MO X base e1 e2 w ao cap hs m) {k : Nat} (hk : mb ao hs k = true) : base ≤ k ∧ k < w.heap.size := by
  rcases mb_iff.1 hk with a | a
  · exact h.outer.block a
  · obtain ⟨i, hi, h2⟩ := obs_of a
    exact (h.row i hi (by have := h.len; omega)).block h2
theorem MO.hz (h : MO X base e1 e2 w ao cap hs m) (hX : HX X w) : HX (mz X ao hs) w := fun k hk => by
  rcases mz_iff.1 hk with a | a
  · exact hX k a
  · exact (h.mb_block (mb_iff.2 a)).2
/-- A step that turns only what X hides, or new blocks. -/
theorem MO.ext (h : MO X base e1 e2 w ao cap hs m) {Y X' : Nat → Bool} (hE : ExtX Y w w') (hY : ∀ k, k < w.heap.size → Y k = true → X k = true) (hZ : ∀ k, k < w.heap.size → X' k = true → X k = true) : MO X' base e1 e2 w' ao cap hs m := by
  have hX' : ∀ k, mb ao hs k = true → X' k = false := fun k hk => by
    cases hh : X' k
    · rfl
    · have := hZ k (h.mb_block hk).2 hh; rw [h.mb_X hk] at this; simp at this
  have hYm : ∀ k, mb ao hs k = true → Y k = false := fun k hk => by
    cases hh : Y k
    · rfl
    · have := hY k (h.mb_block hk).2 hh; rw [h.mb_X hk] at this; simp at this
  refine ⟨h.outer.ext HdR.elem hE hY hZ, h.len, h.rlen, fun i hi hi' => ?_, fun i hi k hk => ⟨hX' k (mb_iff.2 (.inr (obs_get hi hk))), (h.sep i hi k hk).2⟩, h.dis⟩
  refine (h.row i hi hi').ext QC.elem hE (fun k hk hy => cut_mk (mz_iff.2 (.inl (hY k hk hy))) ?_) (fun k hk hy => ?_)
  · cases hb : ob hs[i].1 k
    · rfl
    · have := hYm k (mb_iff.2 (.inr (obs_get hi hb))); rw [hy] at this; simp at this
  · obtain ⟨h1, h2⟩ := cut_of hy
    refine cut_mk (mz_iff.2 ?_) h2
    rcases mz_iff.1 h1 with a | a
    · exact .inl (hZ k hk a)
    · exact .inr a
theorem MO.ext0 (h : MO X base e1 e2 w ao cap hs m) (hE : Ext w w') : MO X base e1 e2 w' ao cap hs m :=
  h.ext hE (fun k _ hk => by simp [noY] at hk) (fun _ _ h => h)
/-- A row is laid where there was none. -/
theorem MO.put (h : MO X base e1 e2 w ao cap hs m) {i : Nat} (hi : i < hs.length) (hn : hs[i].1 = none) {a : Option Addr} {c : Nat} {l : List Rat} {w1 : World} 
    (hE1 : Ext w w1) (hnew : ∀ k, ob a k = true → w.heap.size ≤ k) (hr : OL QC 3 (mz X ao hs) base e2 w1 a c l) (hX : HX X w)
    (hE : ExtX (ob ao) w1 w') (ho : OL HdR 1 X base e1 w' ao cap (hs.set i (a, l.length, c))) : MO X base e1 e2 w' ao cap (hs.set i (a, l.length, c)) (m.set i l) := by
  have hlen := h.len
  have hE' : ExtX (ob ao) w w' := (ExtX.of hE1).trans hE
  have hobs : ∀ k, obs (hs.set i (a, l.length, c)) k = true ↔ obs hs k = true ∨ ob a k = true := fun k => by
    constructor
    · intro hk
      obtain ⟨j, hj, h2⟩ := obs_of hk
      rw [List.getElem_set] at h2
      split at h2
      · exact .inr h2
      · exact .inl (obs_get (by simpa using hj) h2)
    · rintro (hk | hk)
      · obtain ⟨j, hj, h2⟩ := obs_of hk
        refine obs_get (i := j) (by simpa using hj) ?_
        rw [List.getElem_set]
        split
        · subst_vars; rw [hn] at h2; simp [ob] at h2
        · exact h2
      · refine obs_get (i := i) (by simpa using hi) ?_
        rw [List.getElem_set]; simpa using hk
  have hmz : ∀ k, mz X ao (hs.set i (a, l.length, c)) k = true ↔ mz X ao hs k = true ∨ ob a k = true := fun k => by
    rw [mz_iff, mz_iff, hobs]
    constructor
    · rintro (h | h | h | h)
      · exact .inl (.inl h)
      · exact .inl (.inr (.inl h))
      · exact .inl (.inr (.inr h))
      · exact .inr h
    · rintro ((h | h | h) | h)
      · exact .inl h
      · exact .inr (.inl h)
      · exact .inr (.inr (.inl h))
      · exact .inr (.inr (.inr h))
  have hold : ∀ k, mb ao hs k = true → ob a k = false := fun k hk => by
    cases hb : ob a k
    · rfl
    · have := hnew k hb; have := (h.mb_block hk).2; omega
  have hobao : ∀ k, ob a k = true → ob ao k = false := fun k hk => by
    cases hb : ob ao k
    · rfl
    · have := hold k (mb_iff.2 (.inl hb)); rw [hk] at this; simp at this
  refine ⟨ho, by simp [hlen], fun j hj hj' => ?_, fun j hj hj' => ?_, fun j hj k hk => ?_, fun j q hj hq hjq k hk => ?_⟩
  · rw [List.getElem_set, List.getElem_set]
    split
    · rfl
    · exact h.rlen j (by simpa using hj) (by simpa using hj')
  · have hj0 : j < hs.length := by simpa using hj
    have hj1 : j < m.length := by simpa using hj'
    by_cases e : i = j
    · subst e
      simp only [List.getElem_set_self]
      refine hr.ext QC.elem hE (fun k _ hk => mz_iff.2 (.inr (.inl hk))) (fun k hk hz => ?_)
      obtain ⟨h1, h2⟩ := cut_of hz
      rcases (hmz k).1 h1 with h3 | h3
      · exact h3
      · rw [h2] at h3; simp at h3
    · simp only [List.getElem_set_ne e]
      refine (h.row j hj0 hj1).ext QC.elem hE' (fun k _ hk => cut_mk (mz_iff.2 (.inr (.inl hk))) ?_) (fun k hk hz => ?_)
      · cases hb : ob hs[j].1 k
        · rfl
        · have := (h.sep j hj0 k hb).2; rw [hk] at this; simp at this
      · obtain ⟨h1, h2⟩ := cut_of hz
        rcases (hmz k).1 h1 with h3 | h3
        · exact cut_mk h3 h2
        · have := hnew k h3; omega
  · rw [List.getElem_set] at hk
    split at hk
    · exact ⟨by
        cases hb : X k
        · rfl
        · have := hX k hb; have := hnew k hk; omega, hobao k hk⟩
    · exact h.sep j (by simpa using hj) k hk
  · have hj0 : j < hs.length := by simpa using hj
    have hq0 : q < hs.length := by simpa using hq
    rw [List.getElem_set] at hk ⊢
    split at hk
    · rw [if_neg (by omega)]
      cases hb : ob hs[q].1 k
      · rfl
      · have := hold k (mb_iff.2 (.inr (obs_get hq0 hb))); dsimp only at hk; rw [hk] at this; simp at this
    · split
      · exact hold k (mb_iff.2 (.inr (obs_get hj0 hk)))
      · exact h.dis j q hj0 hq0 hjq k hk
/-- The header of a row. -/
theorem MO.hdr (h : MO X base e1 e2 w ao cap hs m) (i : Nat) (hi : i < hs.length) : w.cell? (adr ao i) = some (.slice hs[i].1 hs[i].2.1 hs[i].2.2) ∧ w.frozen? (adr ao i) = false := by
  obtain ⟨u, h1, h2, rfl⟩ := h.outer.cell HdR.one i hi
  exact ⟨h1, h2⟩
/-- A row, read. -/
theorem MO.rowS (h : MO X base e1 e2 w ao cap hs m) {i : Nat} (hi : i < hs.length) (hi' : i < m.length) : Sl QC 3 (_root_.Go.Rep.mk (cut (mz X ao hs) hs[i].1) w) hs[i].1 m[i] := (h.row i hi hi').sl QC.elem
theorem MO.rowX (h : MO X base e1 e2 w ao cap hs m) {i : Nat} (hi : i < hs.length) (hi' : i < m.length) : Sl QC 3 (_root_.Go.Rep.mk X w) hs[i].1 m[i] := (h.rowS hi hi').mono QC.mono (mk_sub fun k _ hk => cut_mk (mz_iff.2 (.inl hk)) (by
  cases hb : ob hs[i].1 k
  · rfl
  · have := (h.sep i hi k hb).1; rw [hk] at this; simp at this))
theorem MO.capLen (h : MO X base e1 e2 w ao cap hs m) : m.length ≤ cap := by rw [← h.len]; exact h.outer.lenCap
/-- The matrix, read. -/
theorem MO.mc (h : MO X base e1 e2 w ao cap hs m) : MC (_root_.Go.Rep.mk X w) (.slice ao m.length cap) m := by
  have hl := h.len
  refine ⟨ao, cap, rfl, h.capLen, fun hp => ?_, fun i hi => ?_⟩
  · have := h.outer.hd; rw [hl] at this; exact this hp
  · obtain ⟨h1, _⟩ := h.hdr i (by omega)
    have hr := h.rowX (i := i) (by omega) hi
    refine ⟨.slice hs[i].1 hs[i].2.1 hs[i].2.2, rfl, fun j hj => ?_, ?_⟩
    · have hj0 : j = 0 := by simp [Value.cells] at hj; omega
      subst hj0
      unfold _root_.Go.Rep.mk
      have hX : X (adr ao (i * 1 + 0)).block = false := by
        obtain ⟨b, off, rfl⟩ := h.outer.hd (by omega)
        exact h.outer.1 _ (by simp [ob, adr])
      rw [hX]
      simpa [Value.cells] using h1
    · rw [h.rlen i (by omega) hi]
      exact ⟨_, _, rfl, by have := (h.row i (by omega) hi).lenCap; exact this, hr⟩
/-- A matrix without rows yet. -/
theorem MO.start {n : Nat} (ho : OL HdR 1 X base e1 w ao cap (List.replicate n (none, 0, 0))) (e2 : TypeId) : MO X base e1 e2 w ao cap (List.replicate n (none, 0, 0)) (List.replicate n []) := by
  refine ⟨ho, by simp, fun i hi hi' => by simp, fun i hi hi' => ?_, fun i hi k hk => ?_, fun i j hi hj hij k hk => ?_⟩
  · simp only [List.getElem_replicate]; exact OL.nil _ _ _ _ _ _
  · simp [ob] at hk
  · simp [ob] at hk
end
end Go.Rep


namespace Go.Rep
open Go.RowKit Go.Lim
section
variable {P : Program} {α : Type} {R : Mem → Value → α → Prop} {X : Nat → Bool} {base : Nat} {e : TypeId} {w : World} {ao : Option Addr} {cap : Nat} {l : List α}
/-- The three cells of an element of an owned list. -/
theorem OL.cell3 (h : OL R 3 X base e w ao cap l) (i : Nat) (hi : i < l.length) {g o : Nat} (hg : adr ao (i * 3) = ⟨g, o, none⟩) :
    ∃ u v0 v1 v2, cellsL u = [v0, v1, v2] ∧ (w.cell? ⟨g, o, none⟩ = some v0 ∧ w.frozen? ⟨g, o, none⟩ = false) ∧ (w.cell? ⟨g, o + 1, none⟩ = some v1 ∧ w.frozen? ⟨g, o + 1, none⟩ = false) ∧ (w.cell? ⟨g, o + 2, none⟩ = some v2 ∧ w.frozen? ⟨g, o + 2, none⟩ = false) ∧ R (mk (un X ao) w) u l[i] := by
  obtain ⟨us, h1, h2, _, h3, h5⟩ := h.cells
  have hi' : i < us.length := by omega
  have hsz : us[i].cells.size = 3 := h2 _ (List.getElem_mem _)
  have hlen : (cellsL us[i]).length = 3 := by simp [cellsL, hsz]
  obtain ⟨v0, v1, v2, hv⟩ : ∃ v0 v1 v2, cellsL us[i] = [v0, v1, v2] := by
    match hc : cellsL us[i], hlen with
    | [a, b, c], _ => exact ⟨a, b, c, rfl⟩
  have ha : ∀ j, adr ao (i * 3 + j) = ⟨g, o + j, none⟩ := fun j => by rw [← adr_add, hg, Addr.add_lit]
  have key : ∀ j v, j < 3 → (cellsL us[i])[j]? = some v → w.cell? ⟨g, o + j, none⟩ = some v ∧ w.frozen? ⟨g, o + j, none⟩ = false := fun j v hj hjv => by
    have hget := flat_get us i j hi' h2 hj
    rw [hjv] at hget
    have := h3 _ _ hget
    rwa [ha] at this
  exact ⟨us[i], v0, v1, v2, hv, key 0 v0 (by omega) (by rw [hv]; rfl), key 1 v1 (by omega) (by rw [hv]; rfl), key 2 v2 (by omega) (by rw [hv]; rfl), h5 i hi' hi⟩
theorem run_store1 {P : Program} {w : World} {a : Addr} {u v : Value} (h1 : v.oneCell' = true) (hc : w.cell? a = some u) (hf : w.frozen? a = false) : (store a v).run P w = .ok () (w.setCell a v) := by
  rw [run_store P w a v _ h1, hc]; simp [hf]
/-- A store of a three-cell element, asl the walk writes it. -/
theorem OL.set3 {t : TypeId} (hT : TyI P t 3) (hR : Elem R 3) (h : OL R 3 X base e w ao cap l) (i : Nat) (hi : i < l.length) {g o : Nat} (hg : adr ao (i * 3) = ⟨g, o, none⟩) {v0 v1 v2 : Value} {x : α} (hu : R (mk (un X ao) w) (.agg #[v0, v1, v2]) x) :
    OL R 3 X base e (((w.setCell ⟨g, o, none⟩ v0).setCell ⟨g, o + 1, none⟩ v1).setCell ⟨g, o + 2, none⟩ v2) ao cap (l.set i x) ∧ ExtX (ob ao) w (((w.setCell ⟨g, o, none⟩ v0).setCell ⟨g, o + 1, none⟩ v1).setCell ⟨g, o + 2, none⟩ v2) := by
  obtain ⟨ti, ht, hts⟩ := hT
  obtain ⟨_, c0, c1, c2, _, ⟨h0, f0⟩, ⟨h1, f1⟩, ⟨h2, f2⟩, _⟩ := h.cell3 i hi hg
  obtain ⟨w', hr, h3, h4⟩ := h.run_store (P := P) ht hts hR i hi _ x hu
  have hone := hR.one _ _ _ hu
  rw [hg] at hr
  have o0 : v0.oneCell' = true := hone v0 (by simp [cellsL, Value.cells])
  have o1 : v1.oneCell' = true := hone v1 (by simp [cellsL, Value.cells])
  have o2 : v2.oneCell' = true := hone v2 (by simp [cellsL, Value.cells])
  have a1 : (w.setCell ⟨g, o, none⟩ v0).cell? ⟨g, o + 1, none⟩ = some c1 := by rw [World.cell?_setCell_other (h := by simp)]; exact h1
  have a2 : ((w.setCell ⟨g, o, none⟩ v0).setCell ⟨g, o + 1, none⟩ v1).cell? ⟨g, o + 2, none⟩ = some c2 := by rw [World.cell?_setCell_other (h := by simp), World.cell?_setCell_other (h := by simp)]; exact h2
  have b1 : (w.setCell ⟨g, o, none⟩ v0).frozen? ⟨g, o + 1, none⟩ = false := by rw [World.frozen?_setCell]; exact f1
  have b2 : ((w.setCell ⟨g, o, none⟩ v0).setCell ⟨g, o + 1, none⟩ v1).frozen? ⟨g, o + 2, none⟩ = false := by rw [World.frozen?_setCell, World.frozen?_setCell]; exact f2
  have hw : w' = ((w.setCell ⟨g, o, none⟩ v0).setCell ⟨g, o + 1, none⟩ v1).setCell ⟨g, o + 2, none⟩ v2 := by
    have s0 := run_store1 (P := P) o0 h0 f0
    have s1 := run_store1 (P := P) o1 a1 b1
    have s2 := run_store1 (P := P) o2 a2 b2
    simp [storeVar, sizeOf, typeInfo, ht, hts, Value.cells, storeCells, Addr.add_lit, s0, s1, s2] at hr
    exact hr.symm
  subst hw
  exact ⟨h3, h4⟩
end
section
variable {X : Nat → Bool} {base : Nat} {e1 e2 : TypeId} {w w' : World} {ao : Option Addr} {cap : Nat} {hs : List Hdr} {m : List (List Rat)}
/-- A reading from before the matrix was made. -/
theorem MO.old {α : Type} {R : Mem → Value → α → Prop} (hR : Mono R) {u : Value} {x : α} {X0 : Nat → Bool} {w0 : World} (h : MO X base e1 e2 w ao cap hs m) (hu : R (_root_.Go.Rep.mk X0 w0) u x) (hE : Ext w0 w) (hb : w0.heap.size ≤ base) (hX : ∀ k, k < w0.heap.size → X k = true → X0 k = true) : R (_root_.Go.Rep.mk (mz X ao hs) w) u x :=
  hR _ _ _ _ (mk_over hE (fun k _ hk => by simp [noY] at hk) fun k hk hz => by
    rcases mz_iff.1 hz with a | a
    · exact hX k hk a
    · have := (h.mb_block (mb_iff.2 a)).1; omega) hu
/-- What the whole mask leaves is read outside of X, too. -/
theorem MO.less {α : Type} {R : Mem → Value → α → Prop} (hR : Mono R) {u : Value} {x : α} (_h : MO X base e1 e2 w ao cap hs m) (hu : R (_root_.Go.Rep.mk (mz X ao hs) w) u x) : R (_root_.Go.Rep.mk X w) u x :=
  hR _ _ _ _ (mk_sub fun _ _ hk => mz_iff.2 (.inl hk)) hu
theorem ob_mb {ao : Option Addr} {hs : List Hdr} {k : Nat} (h : mb ao hs k = false) : ob ao k = false ∧ ∀ i (hi : i < hs.length), ob hs[i].1 k = false := by
  refine ⟨?_, fun i hi => ?_⟩
  · cases hb : ob ao k
    · rfl
    · rw [mb_iff.2 (.inl hb)] at h; simp at h
  · cases hb : ob hs[i].1 k
    · rfl
    · rw [mb_iff.2 (.inr (obs_get hi hb))] at h; simp at h
theorem ExtX.row {i : Nat} (hi : i < hs.length) (h : ExtX (ob hs[i].1) w w') : ExtX (mb ao hs) w w' := h.weaken fun _ _ hk => (ob_mb hk).2 i hi
theorem ExtX.outer (h : ExtX (ob ao) w w') : ExtX (mb ao hs) w w' := h.weaken fun _ _ hk => (ob_mb hk).1
end
end Go.Rep


namespace Go.Rep
open Go.RowKit Go.Lim
theorem lit_rows (X : Nat → Bool) (w : World) (ao : Option Addr) (n cap : Nat) (l : List Rat) (e : TypeId) (hX : ∀ k, X k = true → k < w.heap.size) (h : RC (mk X w) (.slice ao n cap) l) :
    OL RC 1 X w.heap.size e (w.alloc (.cells #[.slice ao n cap] e)) (some ⟨w.heap.size, 0, none⟩) 1 [l] :=
  OL.lit RC.elem hX (Nat.le_refl _) [.slice ao n cap] [l] _ (by simp [cellsL, Value.cells]) rfl (fun i hi _ => by
    have : i = 0 := by simpa using hi
    subst this; exact h) (by simp)
/-- append([]T(nil), x...): a copy. -/
theorem st_copyNil {P : Program} {ops : Array Oper} {Q : Exit → Act → World → Prop} {rest : List Oper} {a : Act} {w : World} {α : Type} {R : Mem → Value → α → Prop} {sz : Nat} {X : Nat → Bool} {e : TypeId} {d : Option Tmp} {ty : TypeId} {ps : String} {af : Array Edge}
    {t by_ : Nat} {z : Value} {s x : Operand} {ax : Option Addr} {cs : Nat} (T : SliceT P t e sz by_ z) (hzs : z.cells.size = sz) (hR : Elem R sz) (base : Nat) (hbase : base ≤ w.heap.size) (hX : ∀ k, X k = true → k < w.heap.size)
    (xs : List α) (n : Nat) (hn : xs.length = n) (hs : a.eval s = .slice none 0 0) (hx : a.eval x = .slice ax n cs) (hxs : Sl R sz (mk X w) ax xs) (hroom : n * by_ ≤ 140737488355328) (hmax : n ≤ 9223372036854775807)
    (K : ∀ ao' cap' w', OL R sz X base e w' ao' cap' xs → n ≤ cap' → Ext w w' → wpList P ops Q rest (a.put d (.slice ao' n cap')) w') :
    wpList P ops Q (⟨d, .call { callee := .builtin .append, args := #[s, x], argTypes := #[t, t] }, ty, ps, af, none⟩ :: rest) a w := by
  subst hn
  have h0 : Sl R sz (mk (un X none) w) ax xs := by
    have : un X none = X := by funext k; simp [un, ob]
    rw [this]; exact hxs
  refine st_appendl (l := []) T hzs hR hbase hX xs hs hx (OL.nil _ _ _ _ _ _) h0 (by simpa using hroom) (by simpa using hmax) fun ao' cap' w' hO hE _ => ?_
  rw [List.nil_append] at hO ⊢
  exact K ao' cap' w' hO hO.lenCap (hE.weaken fun _ _ _ => rfl)
theorem Sl.rowsF {R : Mem → Value → Rat → Prop} {h : Mem} {ao : Option Addr} {m : List (List Rat)} (s : Sl (SlV R 3) 1 h ao m) : ∃ f : Nat → Option Addr × Nat, ∀ i (hi : i < m.length), h (adr ao i) = some (.slice (f i).1 m[i].length (f i).2) ∧ m[i].length ≤ (f i).2 ∧ Sl R 3 h (f i).1 m[i] := by
  have key : ∀ i, ∃ p : Option Addr × Nat, ∀ (hi : i < m.length), h (adr ao i) = some (.slice p.1 m[i].length p.2) ∧ m[i].length ≤ p.2 ∧ Sl R 3 h p.1 m[i] := fun i => by
    by_cases hi : i < m.length
    · obtain ⟨u, h1, a, c, rfl, h2, h3⟩ := s.cell SlV.one i hi
      exact ⟨(a, c), fun _ => ⟨h1, h2, h3⟩⟩
    · exact ⟨(none, 0), fun h => absurd h hi⟩
  exact ⟨fun i => (key i).choose, fun i hi => (key i).choose_spec hi⟩
theorem OL.rowsF {X : Nat → Bool} {base : Nat} {e : TypeId} {w : World} {ao : Option Addr} {cap : Nat} {m : List (List Rat)} (s : OL RC 1 X base e w ao cap m) : ∃ f : Nat → Option Addr × Nat, ∀ i (hi : i < m.length), w.cell? (adr ao i) = some (.slice (f i).1 m[i].length (f i).2) ∧ m[i].length ≤ (f i).2 ∧ Sl QC 3 (mk (un X ao) w) (f i).1 m[i] := by
  have key : ∀ i, ∃ p : Option Addr × Nat, ∀ (hi : i < m.length), w.cell? (adr ao i) = some (.slice p.1 m[i].length p.2) ∧ m[i].length ≤ p.2 ∧ Sl QC 3 (mk (un X ao) w) p.1 m[i] := fun i => by
    by_cases hi : i < m.length
    · obtain ⟨u, h1, _, h2⟩ := s.cell SlV.one i hi
      obtain ⟨a, c, rfl, h3, h4⟩ := h2
      exact ⟨(a, c), fun _ => ⟨h1, h3, h4⟩⟩
    · exact ⟨(none, 0), fun h => absurd h hi⟩
  exact ⟨fun i => (key i).choose, fun i hi => (key i).choose_spec hi⟩
theorem ob_adr {ao : Option Addr} {n k : Nat} (hd : Hd ao n) (hn : 0 < n) {b : Nat} (hb : ob ao b = false) : (adr ao k).block ≠ b := by
  obtain ⟨g, o, rfl⟩ := hd hn
  intro h
  have : g = b := h
  subst this
  simp [ob] at hb
end Go.Rep
namespace Go.Proofs.YtjbhcniiioepgaaGreat
open Go.RowKit Go.Rep Go.Lim
/-- The digits of points of k rows. -/
def pB (k : Nat) : Nat := 2 ^ (k + 1) - 2
theorem pB_step (k : Nat) : 2 * pB k + 2 = pB (k + 1) := by
  unfold pB
  have : 4 ≤ 2 ^ (k + 1) ∨ k = 0 := by
    rcases Nat.eq_zero_or_pos k with h | h
    · exact .inr h
    · exact .inl (by have := Nat.pow_le_pow_right (n := 2) (by decide) (show 2 ≤ k + 1 by omega); simpa using this)
  have h2 : 2 ≤ 2 ^ (k + 1) := by have := Nat.pow_le_pow_right (n := 2) (by decide) (show 1 ≤ k + 1 by omega); simpa using this
  rw [Nat.pow_succ 2 (k + 1)]
  omega
theorem pB_mono {j k : Nat} (h : j ≤ k) : pB j ≤ pB k := by
  unfold pB
  have := Nat.pow_le_pow_right (n := 2) (by decide) (show j + 1 ≤ k + 1 by omega)
  omega
theorem pB_8 : pB 8 = 510 := by decide
/-- Some points are drawn: 1 to n rows of d numbers. -/
def TPtsOut (X : Nat → Bool) (tb : Nat) (n d : Nat) (w : World) (e : Ending) (w' : World) : Prop := ExtX (tbm tb) w w' ∧ ∃ (ao : Option Addr) (l : List (List Rat)) (cap : Nat), e = .returned (.slice ao l.length cap) ∧ l.length ≤ cap ∧ 1 ≤ l.length ∧ l.length ≤ n ∧ (∀ r ∈ l, r.length = d) ∧ BM 510 l ∧ TapeR (un X ao) tb w' ∧ OL RC 1 X w.heap.size 33 w' ao cap l
theorem hq_turn {x y : Rat} {B : Nat} (hx : hq x ≤ B) (hy : hq y ≤ B) : hq (2 * x - y) ≤ 2 * B + 2 := by
  have h1 := hq_sub (2 * x) y
  have h2 := hq_mul 2 x
  have h3 : hq (2 : Rat) ≤ 1 := by
    have := hq_int 2 1 (lgI (by omega) (by omega)) (by omega)
    exact this
  omega
/-- The list of turned differences, made so far. -/
def turnN (p a b : List Rat) (j : Nat) : List Rat := (List.range p.length).map fun i => if i < j then 2 * a.getD i 0 - b.getD i 0 else p.getD i 0
theorem turnN_len (p a b : List Rat) (j : Nat) : (turnN p a b j).length = p.length := by simp [turnN]
theorem turnN_zero (p a b : List Rat) : turnN p a b 0 = p := by
  refine List.ext_getElem (by simp [turnN]) fun i h1 h2 => ?_
  simp [turnN, List.getD_eq_getElem?_getD, h2]
theorem turnN_set (p a b : List Rat) (j : Nat) (hj : j < p.length) : (turnN p a b j).set j (2 * a.getD j 0 - b.getD j 0) = turnN p a b (j + 1) := by
  refine List.ext_getElem (by simp [turnN]) fun i h1 h2 => ?_
  rw [List.getElem_set]
  simp only [turnN, List.getElem_map, List.getElem_range]
  split
  · subst_vars; simp
  · by_cases h : i < j
    · simp [h, show i < j + 1 by omega]
    · simp [h, show ¬ i < j + 1 by omega]
theorem turnN_br {p a b : List Rat} {B : Nat} (hp : BR B p) (ha : BR B a) (hb : BR B b) (hB : 1 ≤ B) (j : Nat) : BR (2 * B + 2) (turnN p a b j) := by
  have g : ∀ {x : List Rat}, BR B x → ∀ q, hq (x.getD q 0) ≤ B := fun {x} hx q => by
    rw [List.getD_eq_getElem?_getD]
    by_cases h : q < x.length
    · rw [List.getElem?_eq_getElem h]; exact hx _ (List.getElem_mem _)
    · rw [List.getElem?_eq_none (by omega)]; simp [hq_zero, hB]
  intro q hq'
  unfold turnN at hq'
  obtain ⟨i, _, rfl⟩ := List.mem_map.1 hq'
  split
  · exact hq_turn (g ha i) (g hb i)
  · have := g hp i; omega

set_option maxRecDepth 100000 in
set_option maxHeartbeats 3200000 in
theorem tpoints_any (X : Nat → Bool) (tb n d : Nat) (w : World) (ht : TapeR X tb w) (hX : HX X w) (hn1 : 1 ≤ n) (hn : n ≤ 8) (hd : d ≤ 1000) :
    Calls Tryz.prog 74 #[.pointer (some ⟨tb, 0, none⟩), .int .i64 (n : Int), .int .i64 (d : Int)] w (TPtsOut X tb n d w) := by
  have hsub := tbm_sub ht.1
  have htX := ht.1
  go_enter Tryz.func74, Tryz.ntmps74
  go_wp2_with fail
  refine (trow_any X tb d w ht hX hd).mono ?_
  rintro e w1 ⟨hE1, ao1, l1, cap1, rfl, hl1, hc1, hB1, ht1, hO1⟩
  have hX1 := hX.ext hE1
  have hRC1 : RC (mk X w1) (.slice ao1 d cap1) l1 := ⟨ao1, cap1, by rw [hl1], by omega, hO1.sl QC.elem⟩
  have hL := (lit_rows X w1 ao1 d cap1 l1 33 hX1 hRC1).base_le (b' := w.heap.size) hE1.size
  have ht1X := (ht1.unX htX).old (oo := some ⟨w1.heap.size, 0, none⟩) ((ExtX.refl (Y := noY) w1).alloc (.cells #[.slice ao1 d cap1] 33)) (ob_new w1)
  have hF1 : ExtX (tbm tb) w (w1.alloc (.cells #[.slice ao1 d cap1] 33)) := hE1.alloc _
  obtain ⟨w2, hw2⟩ : ∃ w2, w1.alloc (.cells #[.slice ao1 d cap1] 33) = w2 := ⟨_, rfl⟩
  obtain ⟨g1, hg1⟩ : ∃ g1 : Option Addr, some ⟨w1.heap.size, 0, none⟩ = g1 := ⟨_, rfl⟩
  rw [hg1] at hL ht1X
  rw [hw2] at hL ht1X hF1
  go_wp2_with fail
  have hX2 : HX X w2 := hX.ext hF1
  refine (next_any (un X g1) tb n _ ht1X (by omega)).mono ?_
  rintro e w3 ⟨hE3, ht3, m3, rfl, hm3⟩
  have hO3 := hL.ext RC.elem hE3 (fun k _ hk => hsub k hk) (fun _ _ h => h)
  have hF3 := hF1.trans hE3
  clear hL ht1X hF1 hE3 hX2 hX1 hRC1 hO1 ht1 hE1 hw2 hg1
  go_wp2_with fail
  go_loopw [7, 8] (fun s c wr => ∃ (i k : Nat) (oo : Option Addr) (co : Nat) (l : List (List Rat)), c = .int .i64 i ∧ s = .slice oo k co ∧ l.length = k ∧ 1 ≤ k ∧ i + k ≤ n ∧ (∀ r ∈ l, r.length = d) ∧ BM (pB k) l ∧ OL RC 1 X w.heap.size 33 wr oo co l ∧ TapeR (un X oo) tb wr ∧ ExtX (tbm tb) w wr) (fun _ c _ => (intOf c).toNat)
  case atStart => exact ⟨m3, 1, _, _, [l1], rfl, rfl, rfl, Nat.le_refl _, by omega, fun r hr => by rw [List.mem_singleton.1 hr]; exact hl1, fun r hr => by rw [List.mem_singleton.1 hr]; exact hB1, hO3, ht3, hF3⟩
  case round =>
    clear hO3 ht3 hF3
    obtain ⟨i, k, oo, co, l, rfl, rfl, hlk, hk1, hik, hrl, hBM, hO, htr, hE⟩ := hrel
    have hXr : HX X wr := hX.ext hE
    by_cases hlt : 0 < i
    · have hXu : HX (un X oo) wr := hO.unX hXr
      have hlk' := hid hlk
      have hrl' := hid hrl
      have hO0 := hid hO
      have hE0 := hid hE
      have hXu0 := hXu
      go_wp2_with fail
      refine (trow_any (un X oo) tb d wr htr hXu hd).mono ?_
      rintro e w2 ⟨hE2, po, p, pc, rfl, hpl, hpc, hpB, ht2, hP⟩
      go_wp2_with fail
      refine (next_any (un (un X oo) po) tb 6 _ ht2 (by omega)).mono ?_
      rintro e w3 ⟨hE3, ht3, m3, rfl, hm3⟩
      have hP3 := hP.ext QC.elem hE3 (fun k _ hk => un_left (hsub k hk)) (fun _ _ h => h)
      have hO3 := (hO.ext RC.elem hE2 (fun k _ hk => hsub k hk) (fun _ _ h => h)).ext RC.elem hE3 (fun k _ hk => hsub k hk) (fun _ _ h => h)
      have hF3 := (hE.trans hE2).trans hE3
      have hE23 := hE2.trans hE3
      have hXu3 := (hXu.ext hE2).ext hE3
      have htu3 : TapeR (un X oo) tb w3 := ht3.unX (un_left htX)
      have hpB2 : 2 ≤ pB (k + 1) := by have := pB_mono (show 1 ≤ k + 1 by omega); have : pB 1 = 2 := rfl; omega
      have hBM' := hid hBM
      obtain ⟨i, rfl⟩ : ∃ j, i = j + 1 := ⟨i - 1, by omega⟩
      clear hP hO ht2 htr hE2 hE hXu hlk hrl hBM
      have hcase : m3 < 4 ∨ m3 = 4 ∨ m3 = 5 := by omega
      rcases hcase with h | rfl | rfl
      · obtain ⟨p2, hp2⟩ : ∃ p2, p = p2 := ⟨_, rfl⟩
        subst hp2
        have hp2l := hid hpl
        have hp2B : Hid (BR (pB (k + 1)) p) := hid fun q hq => Nat.le_trans (hpB q hq) hpB2
        have hRC : RC (mk (un X oo) w3) (.slice po d pc) p := ⟨po, pc, by rw [hpl], by omega, hP3.sl QC.elem⟩
        have hOK := hO3
        have htK := htu3
        have hFK := hF3
        have hXK := hX.ext hF3
        have t4 : ((m3 : Int) == 4) = false := beqF (by omega)
        have t5 : ((m3 : Int) == 5) = false := beqF (by omega)
        clear hpl hP3
        have hb7 := hFK.size
        go_wp2_with (at_builtin; refine st_append1n (l := l) slRats rfl RC.elem hb7 hXK k hlk'.out rfl rfl hOK (.slice po d pc) p rfl hRC (by omega) (by omega) ?_; intro oo2 co2 w7 hO7 hE7 hor)
        have hE8 := hFK.own hOK (Nat.le_refl _) hE7
        have ht8 := htK.unstep (hOK.not_ob htX) hE7 hor
        have hl8 : (l ++ [p]).length = k + 1 := by rw [List.length_append, hlk'.out]; rfl
        have hr8 : ∀ r ∈ l ++ [p], r.length = d := fun r hr => by
          rcases List.mem_append.1 hr with h | h
          · exact hrl'.out r h
          · rw [List.mem_singleton.1 h]; exact hp2l.out
        have hB8 : BM (pB (k + 1)) (l ++ [p]) := fun r hr => by
          rcases List.mem_append.1 hr with h | h
          · exact fun q hq => Nat.le_trans (hBM'.out r h q hq) (pB_mono (by omega))
          · rw [List.mem_singleton.1 h]; exact hp2B.out
        go_roundw
        case rel => exact ⟨i, k + 1, oo2, co2, _, by go_num, by go_num, hl8, by omega, by omega, hr8, hB8, hO7, ht8, hE8⟩
        case measure => simp [intOf]
      · go_wp2_with fail
        refine (next_any (un X oo) tb k _ htu3 (by omega)).mono ?_
        rintro e w4 ⟨hE4, ht4, m4, rfl, hm4⟩
        have hm4' : m4 < l.length := by rw [hlk'.out]; omega
        have hO4 := hO3.ext RC.elem hE4 (fun k _ hk => hsub k hk) (fun _ _ h => h)
        have hF4 := hF3.trans hE4
        have hXu4 := hXu3.ext hE4
        obtain ⟨u4, hc4, _, hr4⟩ := hO4.cell SlV.one m4 hm4'
        obtain ⟨a4, c4, rfl, hcl4, hs4⟩ := hr4
        have hhd := hO4.hd
        rw [hlk'.out] at hhd
        have hrd := hrl'.out l[m4] (List.getElem_mem _)
        have hrB := hBM'.out l[m4] (List.getElem_mem _)
        obtain ⟨r, hr⟩ : ∃ r, l[m4] = r := ⟨_, rfl⟩
        rw [hr] at hc4 hcl4 hs4 hrd hrB
        have hrd' := hid hrd
        rw [hrd] at hc4 hcl4
        have hm4k : m4 < k := by omega
        have hrd' := hid hrd
        clear hr hrd hm4' hO3 htu3 hF3 ht3 hE4 hP3 hXu3
        have hp2l := hrd'
        have hp2B : Hid (BR (pB (k + 1)) r) := hid fun q hq => Nat.le_trans (hrB q hq) (pB_mono (by omega))
        go_wp2_with (first
          | (with_reducible refine up_ix1 slRats (by omega) (by assumption) ?_)
          | (at_builtin; refine st_copyNil slRat rfl QC.elem w4.heap.size (Nat.le_refl _) hXu4 r d hrd'.out rfl rfl hs4 (by omega) (by omega) ?_; intro po5 pc5 w5 hO5 hc5 hE5; have hOK := hO4.ext0 RC.elem hE5; have htK : TapeR (un X oo) tb w5 := ht4.ext hE5; have hFK := hF4.trans (ExtX.of hE5); have hXK := hX.ext hFK; have hRC : RC (mk (un X oo) w5) (.slice po5 d pc5) r := ⟨po5, pc5, by rw [hrd'.out], by rw [hrd'.out]; exact hc5, hO5.sl QC.elem⟩; have hb7 := hFK.size)
          | (at_builtin; refine st_append1n (l := l) slRats rfl RC.elem hb7 hXK k hlk'.out rfl rfl hOK (.slice po5 d pc5) r rfl hRC (by omega) (by omega) ?_; intro oo2 co2 w7 hO7 hE7 hor))
        have hE8 := hFK.own hOK (Nat.le_refl _) hE7
        have ht8 := htK.unstep (hOK.not_ob htX) hE7 hor
        have hl8 : (l ++ [r]).length = k + 1 := by rw [List.length_append, hlk'.out]; rfl
        have hr8 : ∀ x ∈ l ++ [r], x.length = d := fun x hr => by
          rcases List.mem_append.1 hr with h | h
          · exact hrl'.out x h
          · rw [List.mem_singleton.1 h]; exact hp2l.out
        have hB8 : BM (pB (k + 1)) (l ++ [r]) := fun x hr => by
          rcases List.mem_append.1 hr with h | h
          · exact fun q hq => Nat.le_trans (hBM'.out x h q hq) (pB_mono (by omega))
          · rw [List.mem_singleton.1 h]; exact hp2B.out
        go_roundw
        case rel => exact ⟨i, k + 1, oo2, co2, _, by go_num, by go_num, hl8, by omega, by omega, hr8, hB8, hO7, ht8, hE8⟩
        case measure => simp [intOf]
      · obtain ⟨f, hf⟩ := hO0.out.rowsF
        have hhd := hO3.hd
        rw [hlk'.out] at hhd
        have hobt : ob oo tb = false := hO3.not_ob htX
        have hpt : ob po tb = false := hP3.not_ob (un_left htX)
        have hS : Hid (∀ w', ExtX (tbm tb) w3.drew w' → ∀ m, m < k → w'.cell? (adr oo m) = some (.slice (f m).1 d (f m).2)) := hid fun w' h m hm => by
          have hml : m < l.length := by rw [hlk'.out]; exact hm
          have h1 := (hf m hml).1
          rw [hrl'.out _ (List.getElem_mem hml)] at h1
          exact (hE23.drew.trans h).cellY h1 (tbm_ne (ob_adr hhd (by omega) hobt))
        have hf' := hid hf
        have hZ3 : HX (un (un X oo) po) w3 := hP3.unX hXu3
        have htd : TapeR (un (un X oo) po) tb w3.drew := ht3.ext (ExtX.refl _).drew
        have i1 : ∀ m, m < k → ∀ W, (Instr.indexAt 23 (.slice oo k co) (.int .i64 (m : Int))).run Tryz.prog W = .ok (.pointer (some (adr oo m))) W := fun m hm => run_ix1 slRats oo k co .i64 m hhd hm rfl
        have i1' := hid i1
        have hkb : (k : Int) ≤ 1099511627776 := by omega
        clear hf i1
        go_wp2_with fail
        go_region_held3 (fun w' => ∀ m, m < k → w'.cell? (adr oo m) = some (.slice (f m).1 d (f m).2))
          (first | exact hS.out _ (ExtX.refl _) | exact hS.out _ t1 | exact hS.out _ (t1.trans t2) | go_keep)
          (first | (go_at_call 28; (with_reducible refine (next_any (un (un X oo) po) tb k w3.drew htd hkb).mono ?_); rintro ee w4 ⟨t1, ht4, m4, rfl, hm4⟩; have hm4k : m4 < k := (by omega); have i4 := i1'.out m4 hm4k) | (go_at_call 28; (with_reducible refine (next_any (un (un X oo) po) tb k w4 ht4 hkb).mono ?_); rintro ee w5 ⟨t2, ht5, m5, rfl, hm5⟩; have hm5k : m5 < k := (by omega); have i5 := i1'.out m5 hm5k) | fail)
        have hE35 : ExtX (tbm tb) w3 w5 := ((ExtX.refl _).drew).trans (t1.trans t2)
        have hP5 := hP3.ext QC.elem hE35 (fun k _ hk => un_left (hsub k hk)) (fun _ _ h => h)
        have hE5 : ExtX (un (tbm tb) po) wr w5 := (hE23.trans hE35).weaken fun _ _ h => (un_false h).1
        have hla : m4 < l.length := by rw [hlk'.out]; exact hm4k
        have hlb : m5 < l.length := by rw [hlk'.out]; exact hm5k
        obtain ⟨_, hca, hsa⟩ := hf'.out m4 hla
        obtain ⟨_, hcb, hsb⟩ := hf'.out m5 hlb
        have hda := hid (hrl'.out _ (List.getElem_mem hla))
        have hdb := hid (hrl'.out _ (List.getElem_mem hlb))
        have hBa := hid (hBM'.out _ (List.getElem_mem hla))
        have hBb := hid (hBM'.out _ (List.getElem_mem hlb))
        rw [hda.out] at hca
        rw [hdb.out] at hcb
        obtain ⟨ra, hra⟩ : ∃ ra, l[m4] = ra := ⟨_, rfl⟩
        obtain ⟨rb, hrb⟩ : ∃ rb, l[m5] = rb := ⟨_, rfl⟩
        rw [hra] at hsa hda hBa
        rw [hrb] at hsb hdb hBb
        obtain ⟨⟨aa, ac⟩, hfa⟩ : ∃ q, f m4 = q := ⟨_, rfl⟩
        obtain ⟨⟨ba, bc⟩, hfb⟩ : ∃ q, f m5 = q := ⟨_, rfl⟩
        rw [hfa] at hca hsa
        rw [hfb] at hcb hsb
        dsimp only at hca hcb hsa hsb
        have hfa' := hid hfa
        have hfb' := hid hfb
        have hoo := hid (fun j (hj : j < wr.heap.size) => show ob po j = false from hP5.ob_lt hj)
        have hleZ : Hid (∀ wx, ExtX (un (tbm tb) po) wr wx → Le (mk (un X oo) wr) (mk (un (un X oo) po) wx)) := hid fun wx h => mk_over h (fun j hj hk => by
            by_cases hx : tbm tb j = true
            · exact un_left (hsub j hx)
            · simp [un, hx, hoo.out j hj] at hk) (fun j hj hk => by
            by_cases hx : un X oo j = true
            · exact hx
            · simp [un, hoo.out j hj] at hk hx; rcases hk with hk | hk <;> simp [hk] at hx)
        have hlp : Hid (p.length = d) := hid hpl
        have hha : Hd aa d := by have := hsa.hd; rw [hda.out] at this; exact this
        have hhb : Hd ba d := by have := hsb.hd; rw [hdb.out] at this; exact this
        have hhp : Hd po d := by have := hP5.hd; rw [hpl] at this; exact this
        have hkB : pB k ≤ 510 := by have := pB_mono (show k ≤ 8 by omega); rw [pB_8] at this; exact this
        rw [← turnN_zero p ra rb] at hP5
        clear hra hrb hfa hfb hS hf' htd ht3 ht4 i4 i5 hm4 hm5 t1 t2 hE35 hP3 hO3 htu3 hF3 hE23 hE3 hhd
        go_wp2_with fail
        rw [hfa'.out, hfb'.out]
        go_wp2_with fail
        obtain ⟨wo, hwo⟩ : ∃ wo, wo = wr := ⟨_, rfl⟩
        subst hwo
        go_loopw [57] (fun cc wx => ∃ j : Nat, cc = .int .i64 j ∧ j ≤ d ∧ OL QC 3 (un X oo) wo.heap.size 31 wx po pc (turnN p ra rb j) ∧ TapeR (un (un X oo) po) tb wx ∧ ExtX (un (tbm tb) po) wo wx) (fun cc _ => d - (intOf cc).toNat)
        case atStart => exact ⟨0, rfl, Nat.zero_le _, hP5, ht5, hE5⟩
        case round =>
          clear hP5 ht5 hE5
          obtain ⟨j, rfl, hj, hPx, htx, hEx⟩ := hrel
          have hXx : HX (un X oo) wr := hXu0.ext hEx
          have hZx : HX (un (un X oo) po) wr := hPx.unX hXx
          by_cases hjd : j < d
          · have hja : j < ra.length := by rw [hda.out]; exact hjd
            have hjb : j < rb.length := by rw [hdb.out]; exact hjd
            have hjp : j < (turnN p ra rb j).length := by rw [turnN_len, hlp.out]; exact hjd
            have hle := hleZ.out _ hEx
            obtain ⟨g1, o1, s1, a1, n1, c1, d1, k1, e1, hg1, hX1, hc1, hq1⟩ := (hsa.mono QC.mono hle).rat QC.shaped j hja
            obtain ⟨g2, o2, s2, a2, n2, c2, d2, k2, e2, hg2, hX2, hc2, hq2⟩ := (hsb.mono QC.mono hle).rat QC.shaped j hjb
            have hob1 := (un_false hX1).2
            have hob2 := (un_false hX2).2
            have gl : Hid (ra.getD j 0 = ra[j]) := hid (by simp [List.getD_eq_getElem?_getD, hja])
            have gm : Hid (rb.getD j 0 = rb[j]) := hid (by simp [List.getD_eq_getElem?_getD, hjb])
            have hst : Hid ((turnN p ra rb j).set j (2 * ra[j] - rb[j]) = turnN p ra rb (j + 1)) := hid (by rw [← gl.out, ← gm.out]; exact turnN_set p ra rb j (by rw [hlp.out]; exact hjd))
            have hBx := hid (hBa.out _ (List.getElem_mem hja))
            have hBy := hid (hBb.out _ (List.getElem_mem hjb))
            obtain ⟨x, hx⟩ : ∃ x, ra[j] = x := ⟨_, rfl⟩
            obtain ⟨y, hy⟩ : ∃ y, rb[j] = y := ⟨_, rfl⟩
            rw [hx] at hst hq1 hBx
            rw [hy] at hst hq2 hBy
            have hv2 : Hid (((2 : Int) : Rat) = 2) := hid rfl
            have h2q : Hid (hq (2 : Rat) ≤ 68719476736) := hid (by have := hq_int 2 1 (lgI (by omega) (by omega)) (by omega); rw [hv2.out] at this; omega)
            have hmq : Hid (hq (2 * x) ≤ 68719476736) := hid (by
              have h1 := hq_mul 2 x
              have h3 := hq_int 2 1 (lgI (by omega) (by omega)) (by omega)
              rw [hv2.out] at h3
              have := hBx.out
              omega)
            have i1 : ∀ W, (Instr.indexAt 33 (.slice aa d ac) (.int .i64 (j : Int))).run Tryz.prog W = .ok (.pointer (some ⟨g1, o1, none⟩)) W := by rw [← hg1]; exact run_indexAt_adr slRat aa d ac .i64 j hha (by omega)
            have i2 : ∀ W, (Instr.indexAt 33 (.slice ba d bc) (.int .i64 (j : Int))).run Tryz.prog W = .ok (.pointer (some ⟨g2, o2, none⟩)) W := by rw [← hg2]; exact run_indexAt_adr slRat ba d bc .i64 j hhb (by omega)
            obtain ⟨g, o, hg⟩ : ∃ g o, adr po (j * 3) = ⟨g, o, none⟩ := ⟨_, _, rfl⟩
            have hg' := hid hg
            have i3 : ∀ W, (Instr.indexAt 33 (.slice po d pc) (.int .i64 (j : Int))).run Tryz.prog W = .ok (.pointer (some ⟨g, o, none⟩)) W := by rw [← hg]; exact run_indexAt_adr slRat po d pc .i64 j hhp (by omega)
            have hEd : Ext wr wr.drew := (ExtX.refl wr).drew
            have hS : Hid (∀ Y W', ExtX Y wr.drew W' → Y g1 = false → Y g2 = false → W'.cell? ⟨g1, o1, none⟩ = some (.bool s1) ∧ W'.cell? ⟨g1, o1 + 1, none⟩ = some (.slice a1 n1 c1) ∧ W'.cell? ⟨g1, o1 + 2, none⟩ = some (.slice d1 k1 e1) ∧ W'.cell? ⟨g2, o2, none⟩ = some (.bool s2) ∧ W'.cell? ⟨g2, o2 + 1, none⟩ = some (.slice a2 n2 c2) ∧ W'.cell? ⟨g2, o2 + 2, none⟩ = some (.slice d2 k2 e2)) := hid fun Y W' h y1 y2 => by
              have p1 := hc1.out Y W' ((ExtX.of hEd).trans h) y1
              have p2 := hc2.out Y W' ((ExtX.of hEd).trans h) y2
              exact ⟨p1.1, p1.2.1, p1.2.2, p2.1, p2.2.1, p2.2.2⟩
            obtain ⟨k00, k01, k02, k10, k11, k12⟩ := hS.out noY wr.drew (ExtX.refl _) rfl rfl
            have hx5 : QV (mk (un (un X oo) po) wr.drew) (.agg #[.bool s1, .slice a1 n1 c1, .slice d1 k1 e1]) x := hq1.qv (by have := hBx.out; omega)
            have hy5 : QV (mk (un (un X oo) po) wr.drew) (.agg #[.bool s2, .slice a2 n2 c2, .slice d2 k2 e2]) y := hq2.qv (by have := hBy.out; omega)
            have hZd : HX (un (un X oo) po) wr.drew := hZx
            have hOd := hPx.ext0 QC.elem hEd
            have htd := htx.ext hEd
            have hEwd : ExtX (un (tbm tb) po) wo wr.drew := hEx.trans (ExtX.of hEd)
            clear hx hy hg hg1 hg2 hc1 hc2 hq1 hq2 hca hcb hPx htx hEx hle gl gm
            go_wp2_with fail
            go_region_held3 (fun w' => w'.cell? ⟨g1, o1, none⟩ = some (.bool s1) ∧ w'.cell? ⟨g1, o1 + 1, none⟩ = some (.slice a1 n1 c1) ∧ w'.cell? ⟨g1, o1 + 2, none⟩ = some (.slice d1 k1 e1) ∧ w'.cell? ⟨g2, o2, none⟩ = some (.bool s2) ∧ w'.cell? ⟨g2, o2 + 1, none⟩ = some (.slice a2 n2 c2) ∧ w'.cell? ⟨g2, o2 + 2, none⟩ = some (.slice d2 k2 e2))
              (first | exact hS.out (ob po) _ ((ExtX.of t123).trans hset.2) hob1 hob2 | exact hS.out noY _ t123 rfl rfl | exact hS.out noY _ t12 rfl rfl | exact hS.out noY _ t1 rfl rfl | go_keep)
              (first
                | (go_at_call 61; (with_reducible refine (rqfrom (un (un X oo) po) wr.drew 2 hZd (by decide) (by decide)).mono ?_); rintro ee w6 ⟨t1, u6, rfl, hu6⟩; rw [hv2.out] at hu6; obtain ⟨s6, a6, n6, c6, d6, k6, e6, rfl⟩ := hu6.shape; have hZ6 := hZd.ext t1; have hu6v := hu6.qv h2q.out; have hx6 := mkx QV.mono hx5 t1)
                | (go_at_call 57; (with_reducible refine (rqmul (un (un X oo) po) w6 _ _ 2 x hZ6 hu6v hx6).mono ?_); rintro ee w7 ⟨t2, u7, rfl, hu7⟩; obtain ⟨s7, a7, n7, c7, d7, k7, e7, rfl⟩ := hu7.shape; have t12 := t1.trans t2; have hZ7 := hZd.ext t12; have hu7v := hu7.qv hmq.out; have hy7 := mkx QV.mono hy5 t12)
                | (go_at_call 76; (with_reducible refine (rqsub (un (un X oo) po) w7 _ _ (2 * x) y hZ7 hu7v hy7).mono ?_); rintro ee w9 ⟨t3, u9, rfl, hu9⟩; obtain ⟨s9, a9, n9, c9, d9, k9, e9, rfl⟩ := hu9.shape; have t123 := t12.trans t3; have hO9 := hOd.ext0 QC.elem t123; obtain ⟨_, v0, v1, v2, _, ⟨q0, f0⟩, ⟨q1, f1⟩, ⟨q2, f2⟩, _⟩ := hO9.cell3 j hjp hg'.out; have hset := hO9.set3 tyRat QC.elem j hjp hg'.out (v0 := .bool s9) (v1 := .slice a9 n9 c9) (v2 := .slice d9 k9 e9) (x := 2 * x - y) hu9)
                | fail)
            obtain ⟨r1, r2⟩ := hset
            rw [hst.out] at r1
            have hE9 : ExtX (un (tbm tb) po) wo _ := (hEwd.trans (ExtX.of t123)).trans (r2.weaken fun _ _ h => (un_false h).2)
            have ht9 := (htd.ext t123).extY r2 (fun _ hk => un_right hk) hpt
            clear k00 k01 k02 k10 k11 k12 i1 i2 i3 q0 q1 q2 f0 f1 f2 r2
            go_wp2_with fail
            go_roundw
            case rel => exact ⟨j + 1, by go_num, by omega, r1, ht9, hE9⟩
            case measure => simp [intOf]; omega
          · have hjl : j = d := by omega
            obtain ⟨r, hr⟩ : ∃ r, turnN p ra rb j = r := ⟨_, rfl⟩
            have hrd : Hid (r.length = d) := hid (by rw [← hr, turnN_len]; exact hlp.out)
            have hrB : Hid (BR (pB (k + 1)) r) := hid (by
              rw [← hr, ← pB_step]
              have h1 : 1 ≤ pB k := by have := pB_mono hk1; have : pB 1 = 2 := rfl; omega
              have h2 : 2 ≤ pB k := by have := pB_mono hk1; have : pB 1 = 2 := rfl; omega
              exact turnN_br (fun q hq => Nat.le_trans (hpB q hq) h2) hBa.out hBb.out h1 j)
            rw [hr] at hPx
            have hOK : OL RC 1 X w.heap.size 33 wr oo co l := hO0.out.ext RC.elem hEx (fun q hq hk => by
              by_cases hx : tbm tb q = true
              · exact hsub q hx
              · simp [un, hx, hoo.out q hq] at hk) (fun _ _ h => h)
            have hFK : ExtX (tbm tb) w wr := hE0.out.then_ hEx (fun q hq hy => by
              have := hE0.out.size
              simp [un, hy, hoo.out q (by omega)])
            have hXK := hX.ext hFK
            have htK : TapeR (un X oo) tb wr := htx.unX (un_left htX)
            have hpc2 := hPx.lenCap
            rw [hrd.out] at hpc2
            have hRC : RC (mk (un X oo) wr) (.slice po d pc) r := ⟨po, pc, by rw [hrd.out], by rw [hrd.out]; exact hpc2, hPx.sl QC.elem⟩
            have hb7 := hFK.size
            have hlk2 := hlk'.out
            clear hr hPx hca hcb hEx htx hlk2
            go_wp2_with (at_builtin; refine st_append1n (l := l) slRats rfl RC.elem hb7 hXK k hlk'.out rfl rfl hOK (.slice po d pc) r rfl hRC (by omega) (by omega) ?_; intro oo2 co2 w7 hO7 hE7 hor)
            have hE8 := hFK.own hOK (Nat.le_refl _) hE7
            have ht8 := htK.unstep (hOK.not_ob htX) hE7 hor
            have hl8 : (l ++ [r]).length = k + 1 := by rw [List.length_append, hlk'.out]; rfl
            have hr8 : ∀ x ∈ l ++ [r], x.length = d := fun x hr => by
              rcases List.mem_append.1 hr with h | h
              · exact hrl'.out x h
              · rw [List.mem_singleton.1 h]; exact hrd.out
            have hB8 : BM (pB (k + 1)) (l ++ [r]) := fun x hr => by
              rcases List.mem_append.1 hr with h | h
              · exact fun q hq => Nat.le_trans (hBM'.out x h q hq) (pB_mono (by omega))
              · rw [List.mem_singleton.1 h]; exact hrB.out
            go_roundw
            case rel => exact ⟨i, k + 1, oo2, co2, _, by go_num, by go_num, hl8, by omega, by omega, hr8, hB8, hO7, ht8, hE8⟩
            case measure => simp [intOf]
    · have hc := hO.lenCap
      have hb := pB_mono (show k ≤ 8 by omega)
      rw [pB_8] at hb
      have hi0 : i = 0 := by omega
      subst hi0
      go_wp2_with fail
      go_ret
      exact ⟨hE, oo, l, co, by rw [hlk]; rfl, by omega, by omega, by omega, hrl, fun r hr q hq => Nat.le_trans (hBM r hr q hq) hb, htr, hO⟩
end Go.Proofs.YtjbhcniiioepgaaGreat


namespace Go
section
variable {P : Program} {ops : Array Oper} {Q : Exit → Act → World → Prop} {md : Region.Mode} {S : World → Prop} {n : Nat}
/-- Whatever order is picked from here on, and S holds behind every operation ahead of number n that is carried out. -/
def wpAnyK (P : Program) (md : Region.Mode) (ops : Array Oper) (Q : Exit → Act → World → Prop) (S : World → Prop) (n : Nat) : Nat → Array Bool → Act → World → Prop
  | 0, listed, a, w => Region.ready md ops listed = [] ∧ Q .normal a w
  | fuel + 1, listed, a, w =>
    (Region.ready md ops listed = [] → Q .normal a w) ∧
    ∀ i ∈ Region.ready md ops listed, wpOp P ops Q i (fun a' w' => (i < n → S w') ∧ wpAnyK P md ops Q S n fuel (listed.setIfInBounds i true) a' w') a w
theorem wpAny_of_K : ∀ (fuel : Nat) (listed : Array Bool) (a : Act) (w : World), wpAnyK P md ops Q S n fuel listed a w → wpAny P md ops Q fuel listed a w
  | 0, _, _, _, h => h
  | fuel + 1, _, _, _, h => ⟨h.1, fun i hi => wpOp_mono (fun a' w' h' => wpAny_of_K fuel _ a' w' h'.2) (h.2 i hi)⟩
theorem wpAnyK_first {i : Nat} {oi : Oper} {v : Value} (hs : Region.sinkB md ops n = true) (hc : Region.chainB md ops n = true) (hn : n < ops.size) (hin : i < n) (hi : ops[i]? = some oi) (hsel : ∀ (j : Nat) (o : Oper) cs b, ops[j]? = some o → o.op ≠ .select cs b)
    (hQ : ∀ c a w, Q (.panic c) (a.put oi.dst v) w → Q (.panic c) a w) :
    ∀ (fuel : Nat) (listed : Array Bool) (a : Act) (w : World), HeadInv md ops n listed →
      (∀ j oj, ops[j]? = some oj → j ≠ i → listed.getD j true = false → (∀ e ∈ oj.after, Region.binds md e = true → e.on ≠ i) → oi.apart ops oj = true) →
      i ∈ Region.ready md ops listed → YieldsIf P ops S oi v a → S w →
      wpAnyK P md ops Q S n fuel (listed.setIfInBounds i true) (a.put oi.dst v) w → wpAnyK P md ops Q S n (fuel + 1) listed a w := by
  intro fuel
  induction fuel with
  | zero =>
    intro listed a w _ _ hr hy hS H
    refine ⟨fun h => (by rw [h] at hr; cases hr), fun j hj => ?_⟩
    by_cases hji : j = i
    · subst hji; exact hy.wpOp hi hS ⟨fun _ => hS, H⟩
    · have := ready_mono hj hji
      rw [H.1] at this
      cases this
  | succ fuel ih =>
    intro listed a w inv hfree hr hy hS H
    refine ⟨fun h => (by rw [h] at hr; cases hr), fun j hj => ?_⟩
    by_cases hji : j = i
    · subst hji; exact hy.wpOp hi hS ⟨fun _ => hS, H⟩
    · have hjn : j < n := by
        rcases Nat.lt_or_ge j n with h | h
        · exact h
        · exact absurd hj (tail_waits hs hc hn inv (n - i) i rfl hin (mem_ready.1 hr).1 j h)
      have h1 := H.2 j (ready_mono hj hji)
      obtain ⟨hjun, oj, hoj, hall⟩ := mem_ready.1 hj
      have hnot : ∀ e ∈ oj.after, Region.binds md e = true → e.on ≠ i := fun e he hb heq => by
        have h1 := hall e he hb
        have h0 := (mem_ready.1 hr).1
        rw [heq] at h1
        rcases Nat.lt_or_ge i listed.size with h' | h'
        · simp [h'] at h0 h1; rw [h0] at h1; cases h1
        · simp [Array.getElem?_eq_none h'] at h1
      have h2 := wpOp_putIf hoj (hfree j oj hoj hji hjun hnot) (fun cs b => hsel i oi cs b hi) (fun cs b => hsel j oj cs b hoj) hQ hy h1
      have hfree' : ∀ k ok, ops[k]? = some ok → k ≠ i → (listed.setIfInBounds j true).getD k true = false →
          (∀ e ∈ ok.after, Region.binds md e = true → e.on ≠ i) → oi.apart ops ok = true := fun k ok hk hki hun hno => by
        refine hfree k ok hk hki ?_ hno
        by_cases hjk : j = k
        · subst hjk; exact hjun
        · rw [getD_set_ne true hjk] at hun; exact hun
      refine wpOp_mono (fun a' w' h3 => ⟨h3.2.1, ih (listed.setIfInBounds j true) a' w' (inv.set hj hjn) hfree' (ready_mono hr (Ne.symm hji)) h3.1 (h3.2.1 hjn) ?_⟩) h2
      rw [Array.setIfInBounds_comm _ _ hji]
      exact h3.2.2
/-- The invariant of what is listed, asl a Bool. -/
def headB (md : Region.Mode) (ops : Array Oper) (n : Nat) (listed : Array Bool) : Bool :=
  decide (listed.size = ops.size) &&
  ((List.range ops.size).all fun j => !listed.getD j false || (match ops[j]? with | some o => o.after.all fun e => !Region.binds md e || listed.getD e.on false | none => true)) &&
  ((List.range ops.size).all fun t => decide (t < n) || !listed.getD t true)
theorem headB_inv {listed : Array Bool} (h : headB md ops n listed = true) : HeadInv md ops n listed := by
  unfold headB at h
  simp only [Bool.and_eq_true, decide_eq_true_eq] at h
  obtain ⟨⟨h1, h2⟩, h3⟩ := h
  refine ⟨h1, fun j oj hj hl e he hb => ?_, fun t ht ht' => ?_⟩
  · have hlt : j < ops.size := (Array.getElem?_eq_some_iff.1 hj).1
    have h4 := List.all_eq_true.1 h2 j (List.mem_range.2 hlt)
    rw [hl, hj] at h4
    simp only [Bool.not_true, Bool.false_or] at h4
    have h5 := Array.all_eq_true_iff_forall_mem.1 h4 e he
    rw [hb] at h5
    simpa using h5
  · have h4 := List.all_eq_true.1 h3 t (List.mem_range.2 ht')
    simp only [Bool.or_eq_true, decide_eq_true_eq, Bool.not_eq_true'] at h4
    rcases h4 with h4 | h4
    · omega
    · exact h4
/-- What a take asks of the region, asl a Bool. -/
def takeB (md : Region.Mode) (ops : Array Oper) (n i : Nat) (listed : Array Bool) : Bool :=
  decide (i < n) && headB md ops n listed && Region.free md ops listed i && (Region.ready md ops listed).contains i
/-- What is asked once. -/
def onceB (md : Region.Mode) (ops : Array Oper) (n : Nat) : Bool := Region.sinkB md ops n && Region.chainB md ops n && decide (n < ops.size) && Region.noSelect ops
theorem wpAnyK_take {i : Nat} {oi : Oper} {v : Value} {fuel : Nat} {listed : Array Bool} {a : Act} {w : World} (hO : Shut (onceB md ops n = true)) (hi : ops[i]? = some oi)
    (hB : takeB md ops n i listed = true)
    (hQ : ∀ c a w, Q (.panic c) (a.put oi.dst v) w → Q (.panic c) a w) (hS : S w) (hw : Region.wanted oi (yielded ops a.tmps) = true) (hy : ∀ w, S w → (execOp a.eval oi).run P w = .ok (.value v) w)
    (h : wpAnyK P md ops Q S n fuel (listed.setIfInBounds i true) (a.put oi.dst v) w) : wpAnyK P md ops Q S n (fuel + 1) listed a w := by
  unfold takeB at hB
  simp only [Bool.and_eq_true, decide_eq_true_eq] at hB
  obtain ⟨⟨⟨b4, b5⟩, b7⟩, b8⟩ := hB
  have hO := hO.out
  unfold onceB at hO
  simp only [Bool.and_eq_true, decide_eq_true_eq] at hO
  obtain ⟨⟨⟨b1, b2⟩, b3⟩, b6⟩ := hO
  exact wpAnyK_first b1 b2 b3 b4 hi (Region.noSelect_spec b6) hQ fuel listed a w (headB_inv b5) (Region.free_spec hi b7) (by simpa using b8) (.inl ⟨hw, hy⟩) hS h
/-- One alone may come up: behind it S is shown anew. -/
theorem wpAnyK_step {i : Nat} {o : Oper} {fuel : Nat} {listed : Array Bool} {a : Act} {w : World} (hr : Region.ready md ops listed = [i]) (ho : ops[i]? = some o)
    (h : ∀ K' : Act → World → Prop, Shut (∀ a w, S w → (S w → wpAnyK P md ops Q S n fuel (listed.setIfInBounds i true) a w) → K' a w) → if Region.wanted o (yielded ops a.tmps) = true then Oper.wp P o a w K' Q else K' (a.put o.dst undef) w) : wpAnyK P md ops Q S n (fuel + 1) listed a w := by
  refine ⟨fun h0 => (by rw [hr] at h0; cases h0), fun j hj => ?_⟩
  rw [hr] at hj
  have : j = i := by simpa using hj
  subst this
  exact wpOp_step ho (fun K' hK => h K' (fun a w hS hW => hK a w ⟨fun _ => hS, hW hS⟩))
/-- The last operation. -/
theorem wpAnyK_last {i : Nat} {o : Oper} {fuel : Nat} {listed : Array Bool} {a : Act} {w : World} (hr : Region.ready md ops listed = [i]) (ho : ops[i]? = some o) (hin : n ≤ i)
    (hd : Region.ready md ops (listed.setIfInBounds i true) = [])
    (h : ∀ K' : Act → World → Prop, Shut (∀ a w, Q .normal a w → K' a w) → if Region.wanted o (yielded ops a.tmps) = true then Oper.wp P o a w K' Q else K' (a.put o.dst undef) w) : wpAnyK P md ops Q S n (fuel + 1) listed a w := by
  refine ⟨fun h0 => (by rw [hr] at h0; cases h0), fun j hj => ?_⟩
  rw [hr] at hj
  have : j = i := by simpa using hj
  subst this
  refine wpOp_step ho (fun K' hK => h K' (fun a w hq => hK a w ⟨fun hlt => absurd hlt (Nat.not_lt.2 hin), ?_⟩))
  cases fuel with
  | zero => exact ⟨hd, hq⟩
  | succ f => exact ⟨fun _ => hq, by rw [hd]; simp⟩
theorem wp_region_K {id : Nat} {a : Act} {w : World} (n : Nat) (S : World → Prop) (hm : P.follows .mixedOrders = true) (hO : onceB .any ops n = true) (hS : S w.drew)
    (h : S w.drew → Shut (onceB .any ops n = true) → wpAnyK P .any ops Q S n ops.size (Array.replicate ops.size false) a w.drew) : (Code.region id ops true).wp P Q a w :=
  wp_region_any hm (wpAny_of_K _ _ _ _ (h hS hO))
end
end Go


namespace Go.Rep
open Go.RowKit Go.Lim
theorem OL.toRV {X : Nat → Bool} {base : Nat} {e : TypeId} {w : World} {ao : Option Addr} {cap : Nat} {l : List (List Rat)} (h : OL RC 1 X base e w ao cap l) (hb : BM 68719476736 l) : OL RV 1 X base e w ao cap l := by
  obtain ⟨hx, us, h1, h2, h22, h3, h5⟩ := h
  exact ⟨hx, us, h1, h2, h22, h3, fun i hi hi' => RC.rv (h5 i hi hi') (hb _ (List.getElem_mem _))⟩
theorem BM.le {B C : Nat} {m : List (List Rat)} (h : BM B m) (hBC : B ≤ C) : BM C m := fun r hr q hq => Nat.le_trans (h r hr q hq) hBC
theorem BM.set {B : Nat} {m : List (List Rat)} (h : BM B m) {r : List Rat} (hr : BR B r) (i : Nat) : BM B (m.set i r) := fun x hx => by
  rcases List.mem_or_eq_of_mem_set hx with hx | rfl
  · exact h x hx
  · exact hr
end Go.Rep
namespace Go.Proofs.YtjbhcniiioepgaaGreat
open Go.RowKit Go.Rep Go.Lim
/-- Some list of rows is drawn. -/
def TAnyOut (X : Nat → Bool) (tb : Nat) (n : Nat) (w : World) (e : Ending) (w' : World) : Prop := ExtX (tbm tb) w w' ∧ TapeR X tb w' ∧ ∃ v l, e = .returned v ∧ MV (mk X w') v l ∧ BM 510 l ∧ (l.length ≤ n ∨ l.length = 65) ∧ ∀ r ∈ l, r.length ≤ 4
theorem tany_finV {X : Nat → Bool} {tb n k b co : Nat} {T : TypeId} {w wz : World} {oo : Option Addr} {l : List (List Rat)} (hE : ExtX (tbm tb) w wz) (ht : TapeR (un X oo) tb wz) (htX : X tb = true) (hO : OL RV 1 X b T wz oo co l) (hB : BM 510 l) (hl : k ≤ n ∨ k = 65) (hr : ∀ r ∈ l, r.length ≤ 4) (hk : l.length = k) : TAnyOut X tb n w (.returned (.slice oo k co)) wz := by
  subst hk
  exact ⟨hE, ht.unX htX, _, l, rfl, ⟨oo, co, rfl, hO.lenCap, hO.sl RV.elem⟩, hB, hl, hr⟩
theorem tany_fin {X : Nat → Bool} {tb n k b co : Nat} {T : TypeId} {w wz : World} {oo : Option Addr} {l : List (List Rat)} (hE : ExtX (tbm tb) w wz) (ht : TapeR (un X oo) tb wz) (htX : X tb = true) (hO : OL RC 1 X b T wz oo co l) (hB : BM 510 l) (hl : k ≤ n ∨ k = 65) (hr : ∀ r ∈ l, r.length ≤ 4) (hk : l.length = k) : TAnyOut X tb n w (.returned (.slice oo k co)) wz :=
  tany_finV hE ht htX (hO.toRV (hB.le (by omega))) hB hl hr hk

set_option maxRecDepth 100000 in
set_option maxHeartbeats 3200000 in
theorem tany_any (X : Nat → Bool) (tb n : Nat) (w : World) (ht : TapeR X tb w) (hX : HX X w) (hn1 : 1 ≤ n) (hn : n ≤ 8) :
    Calls Tryz.prog 26 #[.pointer (some ⟨tb, 0, none⟩), .int .i64 (n : Int)] w (TAnyOut X tb n w) := by
  have hsub := tbm_sub ht.1
  have htX := ht.1
  go_enter Tryz.func26, Tryz.ntmps26
  go_wp2_with fail
  refine (next_any X tb 3 _ ht (by omega)).mono ?_
  rintro e w1 ⟨hE1, ht1, d, rfl, hd⟩
  have hd1 : (1 + (d : Int)) = ((d + 1 : Nat) : Int) := by omega
  go_wp2_with fail
  refine (tpoints_any X tb n (d + 1) w1 ht1 (hX.ext hE1) hn1 hn (by omega)).mono ?_
  rintro e w2 ⟨hE2, oo, l, co, rfl, hlc, hl1, hln, hrl, hBM, ht2, hO2⟩
  have hF2 := hE1.trans hE2
  have hO := hO2.base_le (b' := w.heap.size) hE1.size
  have hr4 : ∀ r ∈ l, r.length ≤ 4 := fun r hr => by have := hrl r hr; omega
  obtain ⟨k, hk⟩ : ∃ k, l.length = k := ⟨_, rfl⟩
  have hk' := hid hk
  rw [hk] at hlc hl1 hln ⊢
  clear hO2 hE2 hE1 ht1 hk hd1
  go_wp2_with fail
  refine (next_any (un X oo) tb 14 _ ht2 (by omega)).mono ?_
  rintro e w3 ⟨hE3, ht3, m, rfl, hm⟩
  have hO3 := hO.ext RC.elem hE3 (fun k _ hk => hsub k hk) (fun _ _ h => h)
  have hF3 := hF2.trans hE3
  have hX3 := hX.ext hF3
  clear hO hF2 ht2 hE3
  have hcase : m = 9 ∨ m = 10 ∨ m = 11 ∨ m = 12 ∨ m = 13 ∨ (m ≠ 9 ∧ m ≠ 10 ∧ m ≠ 11 ∧ m ≠ 12 ∧ m ≠ 13) := by omega
  rcases hcase with rfl | rfl | rfl | rfl | rfl | hno
  · go_wp2_with fail
    go_ret
    exact ⟨hF3, ht3.unX htX, _, [], rfl, SlV.zero _ _ _, fun r hr => by simp at hr, .inl (by simp), fun r hr => by simp at hr⟩
  · go_wp2_with fail
    refine (next_any (un X oo) tb k w3 ht3 (by omega)).mono ?_
    rintro e w4 ⟨hE4, ht4, i, rfl, hi⟩
    go_wp2_with fail
    refine (next_any (un X oo) tb 5 w4 ht4 (by omega)).mono ?_
    rintro e w5 ⟨hE5, ht5, c, rfl, hc⟩
    have hO5 := (hO3.ext RC.elem hE4 (fun k _ hk => hsub k hk) (fun _ _ h => h)).ext RC.elem hE5 (fun k _ hk => hsub k hk) (fun _ _ h => h)
    have hF5 := (hF3.trans hE4).trans hE5
    have hXu5 := hO5.unX (hX.ext hF5)
    go_wp2_with fail
    refine (trow_any (un X oo) tb c w5 ht5 hXu5 (by omega)).mono ?_
    rintro e w6 ⟨hE6, po, p, pc, rfl, hpl, hpc, hpB, ht6, hP⟩
    have hO6 := hO5.ext RC.elem hE6 (fun k _ hk => hsub k hk) (fun _ _ h => h)
    have hF6 := hF5.trans hE6
    have hRC : RC (mk (un X oo) w6) (.slice po c pc) p := ⟨po, pc, by rw [hpl], by rw [hpl]; exact hpc, hP.sl QC.elem⟩
    have ht6u : TapeR (un X oo) tb w6 := ht6.unX (un_left htX)
    have hik : i < k := by omega
    have hil : i < l.length := by rw [hk'.out]; exact hik
    have hhd := hO6.hd
    rw [hk'.out] at hhd
    have hls : (l.set i p).length = k := by rw [List.length_set]; exact hk'.out
    have hBs : BM 510 (l.set i p) := hBM.set (fun q hq => Nat.le_trans (hpB q hq) (by omega)) i
    have hrs : ∀ r ∈ l.set i p, r.length ≤ 4 := fun r hr => by
      rcases List.mem_or_eq_of_mem_set hr with hr | rfl
      · exact hr4 r hr
      · omega
    clear hO3 ht3 hF3 hE4 hE5 hO5 hF5 hXu5 ht5 hE6 ht6 hP hX3 ht4
    go_wp2_with (first
      | (with_reducible refine up_ix1 slRats (by omega) (by assumption) ?_)
      | ((with_reducible show wpList _ _ _ (⟨_, .store _ _ _, _, _, _, _⟩ :: _) _ _); refine st_store tyRats RC.elem i rfl (by simp) hO6 hil _ p rfl hRC ?_; intro w7 hO7 hE7))
    have hF7 := hF6.own hO6 (Nat.le_refl _) hE7
    have ht7 := ht6u.unstep (hO6.not_ob htX) hE7 (.inl rfl)
    go_ret
    exact tany_fin hF7 ht7 htX hO7 hBs (.inl hln) hrs hls
  · have ht3X := ht3.unX htX
    go_wp2_with fail
    refine (lit_pick X tb [0, 4] _ _ _ w3 0 4 ht3X hX3 rfl rfl (by simp) (by simp) (hid (by simp))).mono ?_
    rintro e w4 ⟨hE4, ht4, x, rfl, hx1, hx2⟩
    obtain ⟨c, rfl⟩ := Int.eq_ofNat_of_zero_le hx1
    have hF4 := hF3.trans hE4
    go_wp2_with fail
    refine (trow_any X tb c w4 ht4 (hX.ext hF4) (by omega)).mono ?_
    rintro e w5 ⟨hE5, po, p, pc, rfl, hpl, hpc, hpB, ht5, hP⟩
    have hF5 := hF4.trans hE5
    have hX5 := hX.ext hF5
    have hRC : RC (mk X w5) (.slice po c pc) p := ⟨po, pc, by rw [hpl], by rw [hpl]; exact hpc, hP.sl QC.elem⟩
    have hL := lit_rows X w5 po c pc p 33 hX5 hRC
    have htL := (ht5.unX htX).old (oo := some ⟨w5.heap.size, 0, none⟩) ((ExtX.refl (Y := noY) w5).alloc (.cells #[.slice po c pc] 33)) (ob_new w5)
    have hFL : ExtX (tbm tb) w (w5.alloc (.cells #[.slice po c pc] 33)) := hF5.alloc _
    go_wp2_with fail
    go_ret
    exact tany_fin hFL htL htX hL (fun r hr q hq => by rw [List.mem_singleton.1 hr] at hq; exact Nat.le_trans (hpB q hq) (by omega)) (.inl hn1) (fun r hr => by rw [List.mem_singleton.1 hr]; omega) rfl
  · go_wp2_with fail
    go_loopw [5] (fun s wr => ∃ (q : Nat) (ao : Option Addr) (ca : Nat) (m : List (List Rat)), s = .slice ao q ca ∧ m.length = q ∧ 1 ≤ q ∧ q ≤ 65 ∧ BM 510 m ∧ (∀ r ∈ m, r.length ≤ 4) ∧ OL RC 1 X w.heap.size 33 wr ao ca m ∧ TapeR (un X ao) tb wr ∧ ExtX (tbm tb) w wr) (fun s _ => 65 - lenOf s)
    case atStart => exact ⟨k, oo, co, l, rfl, hk'.out, hl1, by omega, hBM, hr4, hO3, ht3, hF3⟩
    case round =>
      clear hO3 ht3 hF3 hX3
      obtain ⟨q, ao, ca, m, rfl, hmq, hq1, hq65, hB, hr, hO, htr, hE⟩ := hrel
      have hXr := hX.ext hE
      have hb := hE.size
      by_cases hlt : q < 65
      · have h0 : 0 < m.length := by omega
        obtain ⟨u, hc, _, hru⟩ := hO.cell SlV.one 0 h0
        obtain ⟨a0, c0, rfl, hcl0, hs0⟩ := hru
        have hhd := hO.hd
        rw [hmq] at hhd
        have hr0 := hr m[0] (List.getElem_mem _)
        have hB0 := hB m[0] (List.getElem_mem _)
        have hRC : RC (mk (un X ao) wr) (.slice a0 m[0].length c0) m[0] := ⟨a0, c0, rfl, hcl0, hs0⟩
        obtain ⟨r, hre⟩ : ∃ r, m[0] = r := ⟨_, rfl⟩
        rw [hre] at hc hr0 hB0 hRC
        obtain ⟨d0, hd0⟩ : ∃ d0, r.length = d0 := ⟨_, rfl⟩
        rw [hd0] at hc hRC
        have hmq' := hid hmq
        have hl2 : (m ++ [r]).length = q + 1 := by rw [List.length_append, hmq]; rfl
        have hB2 : BM 510 (m ++ [r]) := fun x hx => by
          rcases List.mem_append.1 hx with h | h
          · exact hB x h
          · rw [List.mem_singleton.1 h]; exact hB0
        have hr2 : ∀ x ∈ m ++ [r], x.length ≤ 4 := fun x hx => by
          rcases List.mem_append.1 hx with h | h
          · exact hr x h
          · rw [List.mem_singleton.1 h]; exact hr0
        clear hs0 hcl0 hre hd0 hmq h0
        go_wp2_with (first
          | (with_reducible refine up_ix1 slRats (by omega) (by assumption) ?_)
          | (at_builtin; refine st_append1n (l := m) slRats rfl RC.elem hb hXr q hmq'.out rfl rfl hO (.slice a0 d0 c0) r rfl hRC (by omega) (by omega) ?_; intro oo2 co2 w7 hO7 hE7 hor))
        have hE8 := hE.own hO (Nat.le_refl _) hE7
        have ht8 := htr.unstep (hO.not_ob htX) hE7 hor
        go_roundw
        case rel => exact ⟨q + 1, oo2, co2, _, by go_num, hl2, by omega, by omega, hB2, hr2, hO7, ht8, hE8⟩
        case measure => simp [lenOf]; omega
      · have hq : q = 65 := by omega
        subst hq
        go_wp2_with fail
        go_ret
        exact tany_fin hE htr htX hO hB (.inr rfl) hr hmq
  · have hhd := hO3.hd
    rw [hk'.out] at hhd
    have h0 : 0 < l.length := by rw [hk'.out]; omega
    obtain ⟨u, hc, _, hru⟩ := hO3.cell SlV.one 0 h0
    obtain ⟨a0, c0, rfl, hcl0, hs0⟩ := hru
    have hd0 := hrl l[0] (List.getElem_mem _)
    obtain ⟨dd, hdd⟩ : ∃ dd, d + 1 = dd := ⟨_, rfl⟩
    have hdd4 : dd ≤ 4 := by omega
    rw [hd0, hdd] at hc
    clear hdd
    have hobt : ob oo tb = false := hO3.not_ob htX
    have htd : TapeR (un X oo) tb w3.drew := ht3.ext (ExtX.refl _).drew
    have hS : Hid (∀ w', ExtX (tbm tb) w3.drew w' → w'.cell? (adr oo 0) = some (.slice a0 dd c0)) := hid fun w' h => h.cellY (show w3.drew.cell? _ = _ from hc) (tbm_ne (ob_adr hhd (by omega) hobt))
    have k0 := hS.out _ (ExtX.refl _)
    have i1 : ∀ m, m < k → ∀ W, (Instr.indexAt 23 (.slice oo k co) (.int .i64 (m : Int))).run Tryz.prog W = .ok (.pointer (some (adr oo m))) W := fun m hm => run_ix1 slRats oo k co .i64 m hhd hm rfl
    have i1' := hid i1
    have i0 : ∀ W, (Instr.indexAt 23 (.slice oo k co) (.int .i64 0)).run Tryz.prog W = .ok (.pointer (some (adr oo 0))) W := i1 0 (by omega)
    have hkb : (k : Int) ≤ 1099511627776 := by omega
    have hOd := hO3.ext0 RC.elem (ExtX.refl _).drew
    have hFd : ExtX (tbm tb) w w3.drew := hF3.drew
    clear hs0 hcl0 hd0 i1 h0 hO3 hF3 ht3 hX3
    go_wp2_with fail
    refine wp_region_K 12 (fun w' => w'.cell? (adr oo 0) = some (.slice a0 dd c0)) (by kernel_rfl) (by kernel_rfl) (hS.out _ (ExtX.refl _)) (fun hHeld hOnce => ?_)
    clear k0
    refine wpAnyK_take hOnce (i := 0) (oi := ⟨_, _, _, _, _, _⟩) (v := ?_) rfl (by kernel_rfl) (fun _ _ _ h => h) (by assumption) (by rfl) (fun w hSw => ?_) ?_
    rotate_left
    · (try dsimp only at hSw)
      go_simp
      all_goals with_reducible rfl
    (try simp only [Act.put, List.setIfInBounds_toArray, List.set_cons_zero, List.set_cons_succ])
    refine wpAnyK_take hOnce (i := 1) (oi := ⟨_, _, _, _, _, _⟩) (v := ?_) rfl (by kernel_rfl) (fun _ _ _ h => h) (by assumption) (by rfl) (fun w hSw => ?_) ?_
    rotate_left
    · (try dsimp only at hSw)
      go_simp
      all_goals with_reducible rfl
    (try simp only [Act.put, List.setIfInBounds_toArray, List.set_cons_zero, List.set_cons_succ])
    refine wpAnyK_take hOnce (i := 2) (oi := ⟨_, _, _, _, _, _⟩) (v := ?_) rfl (by kernel_rfl) (fun _ _ _ h => h) (by assumption) (by rfl) (fun w hSw => ?_) ?_
    rotate_left
    · (try dsimp only at hSw)
      go_simp
      all_goals with_reducible rfl
    (try simp only [Act.put, List.setIfInBounds_toArray, List.set_cons_zero, List.set_cons_succ])
    refine wpAnyK_take hOnce (i := 3) (oi := ⟨_, _, _, _, _, _⟩) (v := ?_) rfl (by kernel_rfl) (fun _ _ _ h => h) (by assumption) (by rfl) (fun w hSw => ?_) ?_
    rotate_left
    · (try dsimp only at hSw)
      go_simp
      all_goals with_reducible rfl
    (try simp only [Act.put, List.setIfInBounds_toArray, List.set_cons_zero, List.set_cons_succ])
    refine wpAnyK_take hOnce (i := 5) (oi := ⟨_, _, _, _, _, _⟩) (v := ?_) rfl (by kernel_rfl) (fun _ _ _ h => h) (by assumption) (by rfl) (fun w hSw => ?_) ?_
    rotate_left
    · (try dsimp only at hSw)
      go_simp
      all_goals with_reducible rfl
    (try simp only [Act.put, List.setIfInBounds_toArray, List.set_cons_zero, List.set_cons_succ])
    refine wpAnyK_take hOnce (i := 6) (oi := ⟨_, _, _, _, _, _⟩) (v := ?_) rfl (by kernel_rfl) (fun _ _ _ h => h) (by assumption) (by rfl) (fun w hSw => ?_) ?_
    rotate_left
    · (try dsimp only at hSw)
      go_simp
      all_goals with_reducible rfl
    (try simp only [Act.put, List.setIfInBounds_toArray, List.set_cons_zero, List.set_cons_succ])
    refine wpAnyK_take hOnce (i := 7) (oi := ⟨_, _, _, _, _, _⟩) (v := ?_) rfl (by kernel_rfl) (fun _ _ _ h => h) (by assumption) (by rfl) (fun w hSw => ?_) ?_
    rotate_left
    · (try dsimp only at hSw)
      go_simp
      all_goals with_reducible rfl
    (try simp only [Act.put, List.setIfInBounds_toArray, List.set_cons_zero, List.set_cons_succ])
    refine wpAnyK_take hOnce (i := 8) (oi := ⟨_, _, _, _, _, _⟩) (v := ?_) rfl (by kernel_rfl) (fun _ _ _ h => h) (by assumption) (by rfl) (fun w hSw => ?_) ?_
    rotate_left
    · (try dsimp only at hSw)
      go_simp
      all_goals with_reducible rfl
    (try simp only [Act.put, List.setIfInBounds_toArray, List.set_cons_zero, List.set_cons_succ])
    refine wpAnyK_take hOnce (i := 9) (oi := ⟨_, _, _, _, _, _⟩) (v := ?_) rfl (by kernel_rfl) (fun _ _ _ h => h) (by assumption) (by rfl) (fun w hSw => ?_) ?_
    rotate_left
    · (try dsimp only at hSw)
      go_simp
      all_goals with_reducible rfl
    (try simp only [Act.put, List.setIfInBounds_toArray, List.set_cons_zero, List.set_cons_succ])
    refine wpAnyK_step (i := 4) (o := ⟨_, _, _, _, _, _⟩) (by kernel_rfl) rfl (fun K hK => ?_)
    go_simp
    (go_at_call 28; (with_reducible refine (next_any (un X oo) tb k w3.drew htd hkb).mono ?_); rintro ee w4 ⟨t1, ht4, i, rfl, hi⟩)
    refine hK.out _ _ (hS.out w4 t1) (fun hHeld => ?_)
    clear hK K
    (try simp only [Act.put, List.setIfInBounds_toArray, List.set_cons_zero, List.set_cons_succ])
    have hik : i < k := by omega
    have hil : i < l.length := by rw [hk'.out]; exact hik
    have i4 := i1'.out i hik
    have hO4 := hOd.ext RC.elem t1 (fun k _ hk => hsub k hk) (fun _ _ h => h)
    have hF4 := hFd.trans t1
    have hXu4 : HX (un X oo) w4 := hO4.unX (hX.ext hF4)
    have hd4 : dd ≤ 1000 := by omega
    refine wpAnyK_step (i := 10) (o := ⟨_, _, _, _, _, _⟩) (by kernel_rfl) rfl (fun K hK => ?_)
    go_simp
    (go_at_call 29; (with_reducible refine (toddrow_any (un X oo) tb dd w4 ht4 hXu4 hd4).mono ?_); rintro ee w5 ⟨t2, po, p, pc, rfl, hpl, hpc, hpB, ht5, hP⟩)
    refine hK.out _ _ (hS.out w5 (t1.trans t2)) (fun hHeld => ?_)
    clear hK K
    (try simp only [Act.put, List.setIfInBounds_toArray, List.set_cons_zero, List.set_cons_succ])
    have hO5 := hO4.ext RC.elem t2 (fun k _ hk => hsub k hk) (fun _ _ h => h)
    have hF5 := hF4.trans t2
    have hRV : RV (mk (un X oo) w5) (.slice po dd pc) p := ⟨po, pc, by rw [hpl], by rw [hpl]; exact hpc, hP.sl QV.elem⟩
    have ht5u : TapeR (un X oo) tb w5 := ht5.unX (un_left htX)
    have hO6 := hO5.toRV (hBM.le (by omega))
    obtain ⟨_, q0, f0, _⟩ := hO6.cell SlV.one i hil
    refine wpAnyK_take hOnce (i := 11) (oi := ⟨_, _, _, _, _, _⟩) (v := ?_) rfl (by kernel_rfl) (fun _ _ _ h => h) (by assumption) (by rfl) (fun w hSw => ?_) ?_
    rotate_left
    · (try dsimp only at hSw)
      go_simp
      all_goals with_reducible rfl
    (try simp only [Act.put, List.setIfInBounds_toArray, List.set_cons_zero, List.set_cons_succ])
    refine wpAnyK_last (i := 12) (o := ⟨_, _, _, _, _, _⟩) (by kernel_rfl) rfl (by decide) (by kernel_rfl) (fun K hK => ?_)
    go_simp
    refine hK.out _ _ ?_
    clear hK K
    obtain ⟨hO7, hE7⟩ := hO6.set1 tyRats RV.elem SlV.one i hil (.slice po dd pc) p hRV
    have hF7 := hF5.own hO6 (Nat.le_refl _) hE7
    have ht7 := ht5u.unstep (hO6.not_ob htX) hE7 (.inl rfl)
    have hls : (l.set i p).length = k := by rw [List.length_set]; exact hk'.out
    have hBs : BM 510 (l.set i p) := hBM.set (fun q hq => Nat.le_trans (hpB q hq) (by omega)) i
    have hrs : ∀ r ∈ l.set i p, r.length ≤ 4 := fun r hr => by
      rcases List.mem_or_eq_of_mem_set hr with hr | rfl
      · exact hr4 r hr
      · omega
    clear q0 f0 i0 i4
    go_wp2_with fail
    go_ret
    exact tany_finV hF7 ht7 htX hO7 hBs (.inl hln) hrs hls
  · obtain ⟨n1, n2, n3, n4, n5⟩ := hno
    have t1 : ((m : Int) == 9) = false := beqF (by omega)
    have t2 : ((m : Int) == 10) = false := beqF (by omega)
    have t3 : ((m : Int) == 11) = false := beqF (by omega)
    have t4 : ((m : Int) == 12) = false := beqF (by omega)
    have t5 : ((m : Int) == 13) = false := beqF (by omega)
    go_wp2_with fail
    go_ret
    exact tany_fin hF3 ht3 htX hO3 hBM (.inl hln) hr4 hk'.out
end Go.Proofs.YtjbhcniiioepgaaGreat


namespace Go.Proofs.YtjbhcniiioepgaaGreat
open Go.RowKit Go.Rep Go.Lim
/-- Some row is drawn. -/
def TAtOut (X : Nat → Bool) (tb B L : Nat) (w : World) (e : Ending) (w' : World) : Prop := ExtX (tbm tb) w w' ∧ TapeR X tb w' ∧ ∃ v y, e = .returned v ∧ RV (mk X w') v y ∧ BR B y ∧ y.length ≤ L
def midL (a b : List Rat) : List Rat := List.zipWith (fun x y => ((1 : Int) : Rat) / ((2 : Int) : Rat) * (x + y)) a b
theorem hq_mid {x y : Rat} {B : Nat} (hx : hq x ≤ B) (hy : hq y ≤ B) : hq (x + y) ≤ 2 * B + 1 ∧ hq (((1 : Int) : Rat) / ((2 : Int) : Rat)) ≤ 2 ∧ hq (((1 : Int) : Rat) / ((2 : Int) : Rat) * (x + y)) ≤ 2 * B + 3 := by
  have h1 := hq_add x y
  have h2 := hq_frac (a := 1) (k := 2) (by omega) (by omega) (by omega) (by omega)
  have h3 := hq_mul (((1 : Int) : Rat) / ((2 : Int) : Rat)) (x + y)
  omega
theorem midL_br {a b : List Rat} {B : Nat} (ha : BR B a) (hb : BR B b) : BR (2 * B + 3) (midL a b) := fun q hq' => by
  unfold midL at hq'
  obtain ⟨i, hi, rfl⟩ := List.getElem_of_mem hq'
  rw [List.getElem_zipWith]
  simp at hi
  exact (hq_mid (ha _ (List.getElem_mem (by omega))) (hb _ (List.getElem_mem (by omega)))).2.2

set_option maxRecDepth 100000 in
set_option maxHeartbeats 3200000 in
theorem tat_any (X : Nat → Bool) (tb : Nat) (w : World) (u : Value) (m : List (List Rat)) (B L : Nat) (ht : TapeR X tb w) (hX : HX X w) (hu : MV (mk X w) u m) (hm : m.length ≤ 1000) (hB : BM B m) (hL : ∀ r ∈ m, r.length ≤ L) (hBB : B ≤ 1000000000) (hL4 : 4 ≤ L) (hLL : L ≤ 1000) :
    Calls Tryz.prog 27 #[.pointer (some ⟨tb, 0, none⟩), u] w (TAtOut X tb (2 * B + 3) L w) := by
  have hsub := tbm_sub ht.1
  have htX := ht.1
  obtain ⟨po, pc, rfl, hpc, hpp⟩ := hu
  obtain ⟨f, hf⟩ := hpp.rowsF
  have hhd := hpp.hd
  obtain ⟨g, hg⟩ : ∃ g : Nat → Nat, ∀ j (hj : j < m.length), m[j].length = g j := ⟨fun j => (m.getD j []).length, fun j hj => by simp [List.getD_eq_getElem?_getD, hj]⟩
  have hgd := hid hg
  obtain ⟨k, hk⟩ : ∃ k, m.length = k := ⟨_, rfl⟩
  have hk' := hid hk
  have hB' := hid hB
  have hL' := hid hL
  have hf' := hid hf
  have hpp' := hid hpp
  rw [hk] at hpc hhd hm ⊢
  clear hk hB hL hf hpp hg
  have hodd : Hid (∀ w1, ExtX (tbm tb) w w1 → TapeR X tb w1 → ∀ c : Nat, c < 5 → Calls Tryz.prog 29 #[.pointer (some ⟨tb, 0, none⟩), .int .i64 (c : Int)] w1 (fun e w' => TAtOut X tb (2 * B + 3) L w e w' ∧ ∃ ao n cap, e = .returned (.slice ao n cap))) := hid fun w1 hE1 ht1 c hc => by
    refine (toddrow_any X tb c w1 ht1 (hX.ext hE1) (by omega)).mono ?_
    rintro e w2 ⟨hE2, ao, l, cap, rfl, hl, hcap, hB2, ht2, hO2⟩
    exact ⟨⟨hE1.trans hE2, ht2.unX htX, _, l, rfl, ⟨ao, cap, by rw [hl], by omega, hO2.sl QV.elem⟩, fun q hq => Nat.le_trans (hB2 q hq) (by omega), by omega⟩, _, _, _, rfl⟩
  by_cases h0 : k = 0
  · have t0 : ((k : Int) == 0) = true := beqT (by omega)
    go_enter Tryz.func27, Tryz.ntmps27
    go_wp2_with fail
    refine (next_any X tb 5 _ ht (by omega)).mono ?_
    rintro e w1 ⟨hE1, ht1, c, rfl, hc⟩
    go_wp2_with fail
    refine (hodd.out w1 hE1 ht1 c (by omega)).mono ?_
    rintro e w2 ⟨h2, ao, n, cap, rfl⟩
    go_wp2_with fail
    go_ret
    exact h2
  have t0 : ((k : Int) == 0) = false := beqF (by omega)
  go_enter Tryz.func27, Tryz.ntmps27
  go_wp2_with fail
  refine (tbool_any X tb 12 _ ht (by omega) (by omega)).mono ?_
  rintro e w1 ⟨hE1, ht1, b1, rfl⟩
  cases b1
  rotate_left 1
  · go_wp2_with fail
    refine (next_any X tb 5 _ ht1 (by omega)).mono ?_
    rintro e w2 ⟨hE2, ht2, c, rfl, hc⟩
    go_wp2_with fail
    refine (hodd.out w2 (hE1.trans hE2) ht2 c (by omega)).mono ?_
    rintro e w3 ⟨h3, ao, n, cap, rfl⟩
    go_wp2_with fail
    go_ret
    exact h3
  clear hodd
  have hbt : Hid (∀ j, j < k → (adr po j).block ≠ tb) := hid fun j hj => by
    obtain ⟨u, h1, _⟩ := hpp'.out.cell SlV.one j (by rw [hk'.out]; exact hj)
    intro he
    simp [mk, he, htX] at h1
  have hS : Hid (∀ w', ExtX (tbm tb) w1.drew w' → ∀ j, j < k → w'.cell? (adr po j) = some (.slice (f j).1 (g j) (f j).2)) := hid fun w' h j hj => by
    have hjl : j < m.length := by rw [hk'.out]; exact hj
    have h1 := mk_cell (hf'.out j hjl).1
    rw [hgd.out j hjl] at h1
    exact (hE1.drew.trans h).cellY h1 (tbm_ne (hbt.out j hj))
  have htd : TapeR X tb w1.drew := ht1.ext (ExtX.refl _).drew
  have i1 : ∀ j, j < k → ∀ W, (Instr.indexAt 23 (.slice po k pc) (.int .i64 (j : Int))).run Tryz.prog W = .ok (.pointer (some (adr po j))) W := fun j hj => run_ix1 slRats po k pc .i64 j hhd hj rfl
  have i1' := hid i1
  have hkb : (k : Int) ≤ 1099511627776 := by omega
  clear i1
  go_wp2_with fail
  go_region_held3 (fun w' => ∀ j, j < k → w'.cell? (adr po j) = some (.slice (f j).1 (g j) (f j).2))
    (first | exact hS.out _ (ExtX.refl _) | exact hS.out _ t1 | exact hS.out _ (t1.trans t2) | go_keep)
    (first | (go_at_call 28; (with_reducible refine (next_any X tb k w1.drew htd hkb).mono ?_); rintro ee w4 ⟨t1, ht4, m4, rfl, hm4⟩; have hm4k : m4 < k := (by omega); have i4 := i1'.out m4 hm4k) | (go_at_call 28; (with_reducible refine (next_any X tb k w4 ht4 hkb).mono ?_); rintro ee w5 ⟨t2, ht5, m5, rfl, hm5⟩; have hm5k : m5 < k := (by omega); have i5 := i1'.out m5 hm5k) | fail)
  have hla : m4 < m.length := by rw [hk'.out]; exact hm4k
  have hlb : m5 < m.length := by rw [hk'.out]; exact hm5k
  have hE5 : ExtX (tbm tb) w w5 := hE1.trans (((ExtX.refl _).drew).trans (t1.trans t2))
  obtain ⟨_, hca, hsa⟩ := hf'.out m4 hla
  obtain ⟨_, hcb, hsb⟩ := hf'.out m5 hlb
  have hBa := hid (hB'.out _ (List.getElem_mem hla))
  have hBb := hid (hB'.out _ (List.getElem_mem hlb))
  have hLa := hL'.out _ (List.getElem_mem hla)
  have hLb := hL'.out _ (List.getElem_mem hlb)
  have ga := hgd.out m4 hla
  have gb := hgd.out m5 hlb
  obtain ⟨ra, hra⟩ : ∃ ra, m[m4] = ra := ⟨_, rfl⟩
  obtain ⟨rb, hrb⟩ : ∃ rb, m[m5] = rb := ⟨_, rfl⟩
  obtain ⟨⟨aa, ac⟩, hfa⟩ : ∃ q, f m4 = q := ⟨_, rfl⟩
  obtain ⟨⟨ba, bc⟩, hfb⟩ : ∃ q, f m5 = q := ⟨_, rfl⟩
  rw [hra] at hca hsa hBa hLa ga
  rw [hrb] at hcb hsb hBb hLb gb
  rw [hfa] at hca hsa
  rw [hfb] at hcb hsb
  dsimp only at hca hcb hsa hsb
  obtain ⟨da, hda⟩ : ∃ da, ra.length = da := ⟨_, rfl⟩
  obtain ⟨db, hdb⟩ : ∃ db, rb.length = db := ⟨_, rfl⟩
  have hda' := hid hda
  have hdb' := hid hdb
  have hha := hsa.hd
  have hhb := hsb.hd
  rw [hda] at hca hLa hha ga
  rw [hdb] at hcb hLb hhb gb
  have ga' := hid ga
  have gb' := hid gb
  have hfa' := hid hfa
  have hfb' := hid hfb
  have hX5 := hX.ext hE5
  have hsa5 := hsa.mono QV.mono (mk_mono hE5 hsub)
  have hsb5 := hsb.mono QV.mono (mk_mono hE5 hsub)
  clear hra hrb hfa hfb hS hbt htd ht4 i4 i5 hm4 hm5 t1 t2 hE1 ht1 hsa hsb hda hdb i1' ht ga gb
  rw [hfa'.out, hfb'.out, ← ga'.out, ← gb'.out]
  dsimp only
  go_wp2_with fail
  have hrow : Hid (∀ w1, ExtX (tbm tb) w w1 → TapeR X tb w1 → Calls Tryz.prog 75 #[.pointer (some ⟨tb, 0, none⟩), .int .i64 (da : Int)] w1 (fun e w' => TAtOut X tb (2 * B + 3) L w e w' ∧ ∃ ao n cap, e = .returned (.slice ao n cap))) := hid fun w1 hE1 ht1 => by
    refine (trow_any X tb da w1 ht1 (hX.ext hE1) (by omega)).mono ?_
    rintro e w2 ⟨hE2, ao, l, cap, rfl, hl, hcap, hB2, ht2, hO2⟩
    have hRC : RC (mk X w2) (.slice ao da cap) l := ⟨ao, cap, by rw [hl], by omega, hO2.sl QC.elem⟩
    exact ⟨⟨hE1.trans hE2, ht2.unX htX, _, l, rfl, hRC.rv (fun q hq => Nat.le_trans (hB2 q hq) (by omega)), fun q hq => Nat.le_trans (hB2 q hq) (by omega), by omega⟩, _, _, _, rfl⟩
  refine (tbool_any X tb 3 _ ht5 (by omega) (by omega)).mono ?_
  rintro e w6 ⟨hE6, ht6, b2, rfl⟩
  have hF6 := hE5.trans hE6
  cases b2
  rotate_left 1
  · go_wp2_with fail
    refine (hrow.out w6 hF6 ht6).mono ?_
    rintro e w7 ⟨h7, ao, n, cap, rfl⟩
    go_wp2_with fail
    go_ret
    exact h7
  by_cases hab : da = db
  rotate_left 1
  · have t1 : ((da : Int) != (db : Int)) = true := bneT (by omega)
    go_wp2_with fail
    refine (hrow.out w6 hF6 ht6).mono ?_
    rintro e w7 ⟨h7, ao, n, cap, rfl⟩
    go_wp2_with fail
    go_ret
    exact h7
  have t1 : ((da : Int) != (db : Int)) = false := bneF (by omega)
  have hab' := hid hab
  have hab1 : da ≤ db := by omega
  have hab2 : db ≤ da := by omega
  clear hab hrow
  go_wp2_with fail
  refine (tbool_any X tb 2 _ ht6 (by omega) (by omega)).mono ?_
  rintro e w7 ⟨hE7, ht7, b3, rfl⟩
  have hF7 := hF6.trans hE7
  have hX7 := hX.ext hF7
  have hsa7 := hsa5.mono QV.mono (mk_mono (hE6.trans hE7) hsub)
  have hsb7 := hsb5.mono QV.mono (mk_mono (hE6.trans hE7) hsub)
  clear hE5 hE6 hE7 ht5 ht6 hF6 hsa5 hsb5
  cases b3
  rotate_left 1
  · go_wp2_with (at_builtin; refine st_copyNil slRat rfl QV.elem w7.heap.size (Nat.le_refl _) hX7 ra da hda'.out rfl rfl hsa7 (by omega) (by omega) ?_; intro po5 pc5 w8 hO8 hc8 hE8)
    go_ret
    exact ⟨hF7.trans (ExtX.of hE8), ht7.ext hE8, _, ra, rfl, ⟨po5, pc5, by rw [hda'.out]; rfl, by rw [hda'.out]; exact hc8, hO8.sl QV.elem⟩, fun q hq => Nat.le_trans (hBa.out q hq) (by omega), by rw [hda'.out]; exact hLa⟩
  have hml : Hid ((midL ra rb).length = da) := hid (by unfold midL; simp [hda'.out, hdb'.out, hab'.out])
  obtain ⟨M, hM⟩ : ∃ M, midL ra rb = M := ⟨_, rfl⟩
  have hMB : BR (2 * B + 3) M := by rw [← hM]; exact midL_br hBa.out hBb.out
  have hMi := hid (show ∀ j (h1 : j < ra.length) (h2 : j < rb.length) (h3 : j < M.length), M[j] = ((1 : Int) : Rat) / ((2 : Int) : Rat) * (ra[j] + rb[j]) from fun j h1 h2 h3 => by subst hM; simp [midL])
  rw [hM] at hml
  clear hM
  have hMl1 : M.length ≤ da := by rw [hml.out]; exact Nat.le_refl _
  have hMl2 : da ≤ M.length := by rw [hml.out]; exact Nat.le_refl _
  obtain ⟨wo, hwo⟩ : ∃ wo, wo = w7 := ⟨_, rfl⟩
  subst hwo
  go_wp2_with fail
  go_loopw [7, 55] (fun o cc wr => ∃ (j : Nat) (oo : Option Addr) (co : Nat), cc = .int .i64 j ∧ o = .slice oo j co ∧ j ≤ da ∧ OL QC 3 X wo.heap.size 31 wr oo co (M.take j) ∧ Ext wo wr) (fun _ cc _ => da - (intOf cc).toNat)
  case atStart => exact ⟨0, none, 0, rfl, rfl, Nat.zero_le _, OL.nil _ _ _ _ _ _, ExtX.refl _⟩
  case round =>
    obtain ⟨j, oo, co, rfl, rfl, hj, hO, hE⟩ := hrel
    have hXr : HX X wr := hX7.ext hE
    have hXu : HX (un X oo) wr := hO.unX hXr
    have hbase := hE.size
    by_cases hlt : j < da
    · have hja : j < ra.length := by rw [hda'.out]; exact hlt
      have hjb : j < rb.length := by rw [hdb'.out]; omega
      have hsr : Sl QV 3 (mk (un X oo) wr) aa ra := hsa7.old QV.mono hE (fun j hj => hO.ob_lt hj)
      have hsr2 : Sl QV 3 (mk (un X oo) wr) ba rb := hsb7.old QV.mono hE (fun j hj => hO.ob_lt hj)
      have hltM : j < M.length := by omega
      have htk := hid (take_snoc M j hltM)
      have hln := hid (len_take (l := M) (i := j) (by omega))
      obtain ⟨g1, o1, s1, a1, n1, c1, d1, k1, e1, hg1, hX1, hc1, hq1⟩ := hsr.rat QV.shaped j hja
      obtain ⟨g2, o2, s2, a2, n2, c2, d2, k2, e2, hg2, hX2, hc2, hq2⟩ := hsr2.rat QV.shaped j hjb
      have hob1 := (un_false hX1).2
      have hob2 := (un_false hX2).2
      have i1 : ∀ W, (Instr.indexAt 33 (.slice aa da ac) (.int .i64 (j : Int))).run Tryz.prog W = .ok (.pointer (some ⟨g1, o1, none⟩)) W := by rw [← hg1]; exact run_indexAt_adr slRat aa da ac .i64 j hha (by omega)
      have i2 : ∀ W, (Instr.indexAt 33 (.slice ba db bc) (.int .i64 (j : Int))).run Tryz.prog W = .ok (.pointer (some ⟨g2, o2, none⟩)) W := by rw [← hg2]; exact run_indexAt_adr slRat ba db bc .i64 j hhb (by omega)
      have hbx := hid (hBa.out _ (List.getElem_mem hja))
      have hby := hid (hBb.out _ (List.getElem_mem hjb))
      have hMj := hMi.out j hja hjb hltM
      obtain ⟨x, hx⟩ : ∃ x, ra[j] = x := ⟨_, rfl⟩
      obtain ⟨y, hy⟩ : ∃ y, rb[j] = y := ⟨_, rfl⟩
      rw [hx] at hq1 hbx hMj
      rw [hy] at hq2 hby hMj
      rw [hMj] at htk
      obtain ⟨h, hh⟩ : ∃ h, ((1 : Int) : Rat) / ((2 : Int) : Rat) = h := ⟨_, rfl⟩
      have hmb := hid (hq_mid hbx.out hby.out)
      have hfr := hid (fun W (hW : HX (un X oo) W) => rqfraction (un X oo) W 1 2 hW (by decide) (by decide) (by decide) (by decide) (by decide) (Nat.le_trans (lgI (by decide) (by decide)) (by decide)) (Nat.le_trans (lgI (by decide) (by decide)) (by decide)))
      rw [hh] at htk hmb hfr
      have hsq : Hid (hq (x + y) ≤ 68719476736) := hid (by have := hmb.out.1; omega)
      have hhq : Hid (hq h ≤ 68719476736) := hid (by have := hmb.out.2.1; omega)
      have hEd : Ext wr wr.drew := (ExtX.refl wr).drew
      have hS : Hid (∀ Y W', ExtX Y wr.drew W' → Y g1 = false → Y g2 = false → W'.cell? ⟨g1, o1, none⟩ = some (.bool s1) ∧ W'.cell? ⟨g1, o1 + 1, none⟩ = some (.slice a1 n1 c1) ∧ W'.cell? ⟨g1, o1 + 2, none⟩ = some (.slice d1 k1 e1) ∧ W'.cell? ⟨g2, o2, none⟩ = some (.bool s2) ∧ W'.cell? ⟨g2, o2 + 1, none⟩ = some (.slice a2 n2 c2) ∧ W'.cell? ⟨g2, o2 + 2, none⟩ = some (.slice d2 k2 e2)) := hid fun Y W' h hg hb => by
        have p1 := hc1.out Y W' ((ExtX.of hEd).trans h) hg
        have p2 := hc2.out Y W' ((ExtX.of hEd).trans h) hb
        exact ⟨p1.1, p1.2.1, p1.2.2, p2.1, p2.2.1, p2.2.2⟩
      obtain ⟨k00, k01, k02, k10, k11, k12⟩ := hS.out noY wr.drew (ExtX.refl _) rfl rfl
      have hxd : QV (mk (un X oo) wr.drew) (.agg #[.bool s1, .slice a1 n1 c1, .slice d1 k1 e1]) x := hq1
      have hyd : QV (mk (un X oo) wr.drew) (.agg #[.bool s2, .slice a2 n2 c2, .slice d2 k2 e2]) y := hq2
      have hXd : HX (un X oo) wr.drew := hXu
      clear hc1 hg1 hq1 hc2 hg2 hq2 hx hy hMj hh
      go_wp2_with fail
      go_region_held3 (fun w' => w'.cell? ⟨g1, o1, none⟩ = some (.bool s1) ∧ w'.cell? ⟨g1, o1 + 1, none⟩ = some (.slice a1 n1 c1) ∧ w'.cell? ⟨g1, o1 + 2, none⟩ = some (.slice d1 k1 e1) ∧ w'.cell? ⟨g2, o2, none⟩ = some (.bool s2) ∧ w'.cell? ⟨g2, o2 + 1, none⟩ = some (.slice a2 n2 c2) ∧ w'.cell? ⟨g2, o2 + 2, none⟩ = some (.slice d2 k2 e2))
        (first | exact hS.out (ob oo) _ ((ExtX.of t123).trans hE7) hob1 hob2 | exact hS.out noY _ (ExtX.alloc t123 _) rfl rfl | exact hS.out noY _ t123 rfl rfl | exact hS.out noY _ t12 rfl rfl | exact hS.out noY _ t1 rfl rfl | go_keep)
        (first
          | (go_at_call 79; (with_reducible refine (hfr.out wr.drew hXd).mono ?_); rintro ee w6 ⟨t1, u6, rfl, hu6⟩; obtain ⟨s6, a6, n6, c6, d6, k6, e6, rfl⟩ := hu6.shape; have hX6 := hXd.ext t1; have hu6v := hu6.qv hhq.out; have hx6 := mkx QV.mono hxd t1; have hy6 := mkx QV.mono hyd t1)
          | (go_at_call 87; (with_reducible refine (rqadd (un X oo) w6 _ _ x y hX6 hx6 hy6).mono ?_); rintro ee w7 ⟨t2, u7, rfl, hu7⟩; obtain ⟨s7, a7, n7, c7, d7, k7, e7, rfl⟩ := hu7.shape; have t12 := t1.trans t2; have hX7' := hXd.ext t12; have hu7v := hu7.qv hsq.out; have hf7 := mkx QV.mono hu6v t2)
          | (go_at_call 57; (with_reducible refine (rqmul (un X oo) w7 _ _ h (x + y) hX7' hf7 hu7v).mono ?_); rintro ee w8 ⟨t3, u8, rfl, hu8⟩; obtain ⟨s8, a8, n8, c8, d8, k8, e8, rfl⟩ := hu8.shape; have t123 := t12.trans t3; have hO8 := hO.ext0 QC.elem (hEd.trans t123); have hb8 := (hEd.trans t123).size; have hX8 := hXr.ext (hEd.trans t123))
          | (refine step_append1 (l := M.take j) rfl (by rfl) slRat rfl QC.elem (by omega) hX8 j hln.out rfl rfl hO8 (.agg #[.bool s8, .slice a8 n8 c8, .slice d8 k8 e8]) (h * (x + y)) rfl hu8 (by omega) (by omega) ?_; intro oo2 co2 w9 hO9 hE7 hor)
          | fail)
      have hE9 := (hE.trans (hEd.trans t123)).own hO8 (Nat.le_refl _) hE7
      rw [htk.out] at hO9
      clear k00 k01 k02 k10 k11 k12
      go_wp2_with fail
      go_roundw
      case rel => exact ⟨j + 1, oo2, co2, by go_num, by go_num, by omega, hO9, hE9⟩
      case measure => simp [intOf]; omega
    · have hjl : j = da := by omega
      subst hjl
      rw [List.take_of_length_le (by omega)] at hO
      have hc := hO.lenCap
      have hRC : RC (mk X wr) (.slice oo j co) M := ⟨oo, co, by rw [hml.out], hc, hO.sl QC.elem⟩
      go_wp2_with fail
      go_ret
      exact ⟨hF7.trans (ExtX.of hE), ht7.ext hE, _, M, rfl, hRC.rv (fun q hq => Nat.le_trans (hMB q hq) (by omega)), hMB, by rw [hml.out]; exact hLa⟩
end Go.Proofs.YtjbhcniiioepgaaGreat


namespace Go.Proofs.YtjbhcniiioepgaaGreat
open Go.RowKit Go.Rep Go.Lim

set_option maxRecDepth 100000 in
theorem eminus (X : Nat → Bool) (w : World) (u v : Value) (l m : List Rat) (hX : HX X w) (hu : RV (mk X w) u l) (hv : RV (mk X w) v m) (hl : l.length ≤ 1000000) (hml : m.length = l.length) : Calls Tryz.prog 189 #[u, v] w (ROut X w RC (List.zipWith (· - ·) l m)) := by
  obtain ⟨ao, ca, rfl, hca, hsa⟩ := hu
  have hha := hsa.hd
  obtain ⟨bo, cb, rfl, hcb, hsb⟩ := hv
  have hhb := hsb.hd
  have hml1 : m.length ≤ l.length := by omega
  have hml2 : l.length ≤ m.length := by omega
  obtain ⟨L, hL⟩ : ∃ L, List.zipWith (· - ·) l m = L := ⟨_, rfl⟩
  have hLl : L.length = l.length := by rw [← hL]; simp; omega
  have hLi := hid (show ∀ i (hi : i < l.length) (hj : i < m.length) (hi' : i < L.length), L[i] = l[i] - m[i] from fun i hi hj hi' => by subst hL; simp)
  rw [hL]
  have hLl1 : L.length ≤ l.length := by omega
  have hLl2 : l.length ≤ L.length := by omega
  have hLl' := hid hLl
  clear hL hml hLl
  go_enter Tryz.func189, Tryz.ntmps189
  go_wp2_with fail
  go_loopw [5, 9] (fun o cc wr => ∃ (i : Nat) (oo : Option Addr) (co : Nat), cc = .int .i64 i ∧ o = .slice oo i co ∧ i ≤ l.length ∧ OL QC 3 X w.heap.size 31 wr oo co (L.take i) ∧ Ext w wr) (fun _ cc _ => l.length - (intOf cc).toNat)
  case atStart => exact ⟨0, none, 0, rfl, rfl, Nat.zero_le _, OL.nil _ _ _ _ _ _, ExtX.refl _⟩
  case round =>
    obtain ⟨i, oo, co, rfl, rfl, hi, hO, hE⟩ := hrel
    have hXr : HX X wr := hX.ext hE
    have hXu : HX (un X oo) wr := hO.unX hXr
    have hbase := hE.size
    by_cases hlt : i < l.length
    · have hsr : Sl QV 3 (mk (un X oo) wr) ao l := hsa.old QV.mono hE (fun j hj => hO.ob_lt hj)
      have hltL : i < L.length := by omega
      have htk := hid (take_snoc L i hltL)
      have hln := hid (len_take (l := L) (i := i) (by omega))
      have hltm : i < m.length := by omega
      have hsr2 : Sl QV 3 (mk (un X oo) wr) bo m := hsb.old QV.mono hE (fun j hj => hO.ob_lt hj)
      obtain ⟨g2, o2, s2, a2, n2, c2, d2, k2, e2, hg2, hX2, hc2, hq2⟩ := hsr2.rat QV.shaped i hltm
      obtain ⟨g1, o1, s1, a1, n1, c1, d1, k1, e1, hg1, hX1, hc1, hq1⟩ := hsr.rat QV.shaped i hlt
      have hob1 := (un_false hX1).2
      have hobb := (un_false hX2).2
      have i2 : ∀ W, (Instr.indexAt 33 (.slice bo m.length cb) (.int .i64 (i : Int))).run Tryz.prog W = .ok (.pointer (some ⟨g2, o2, none⟩)) W := by rw [← hg2]; exact run_indexAt_adr slRat bo m.length cb .i64 i hhb (by omega)
      have i1 : ∀ W, (Instr.indexAt 33 (.slice ao l.length ca) (.int .i64 (i : Int))).run Tryz.prog W = .ok (.pointer (some ⟨g1, o1, none⟩)) W := by rw [← hg1]; exact run_indexAt_adr slRat ao l.length ca .i64 i hha (by omega)
      have hEd : Ext wr wr.drew := (ExtX.refl wr).drew
      have hS : Hid (∀ Y W', ExtX Y wr.drew W' → Y g1 = false → Y g2 = false → W'.cell? ⟨g1, o1, none⟩ = some (.bool s1) ∧ W'.cell? ⟨g1, o1 + 1, none⟩ = some (.slice a1 n1 c1) ∧ W'.cell? ⟨g1, o1 + 2, none⟩ = some (.slice d1 k1 e1) ∧ W'.cell? ⟨g2, o2, none⟩ = some (.bool s2) ∧ W'.cell? ⟨g2, o2 + 1, none⟩ = some (.slice a2 n2 c2) ∧ W'.cell? ⟨g2, o2 + 2, none⟩ = some (.slice d2 k2 e2)) := hid fun Y W' h hg hb => by
        have p1 := hc1.out Y W' ((ExtX.of hEd).trans h) hg
        have p2 := hc2.out Y W' ((ExtX.of hEd).trans h) hb
        exact ⟨p1.1, p1.2.1, p1.2.2, p2.1, p2.2.1, p2.2.2⟩
      obtain ⟨k00, k01, k02, k10, k11, k12⟩ := hS.out noY wr.drew (ExtX.refl _) rfl rfl
      have hxd : QV (mk (un X oo) wr.drew) (.agg #[.bool s1, .slice a1 n1 c1, .slice d1 k1 e1]) l[i] := hq1
      have hvd : QV (mk (un X oo) wr.drew) (.agg #[.bool s2, .slice a2 n2 c2, .slice d2 k2 e2]) m[i] := hq2
      have hXd : HX (un X oo) wr.drew := hXu
      have hyi := hLi.out i hlt hltm hltL
      rw [hyi] at htk
      clear hc1 hg1 hq1 hc2 hg2 hq2
      go_wp2_with fail
      go_region_held3 (fun w' => w'.cell? ⟨g1, o1, none⟩ = some (.bool s1) ∧ w'.cell? ⟨g1, o1 + 1, none⟩ = some (.slice a1 n1 c1) ∧ w'.cell? ⟨g1, o1 + 2, none⟩ = some (.slice d1 k1 e1) ∧ w'.cell? ⟨g2, o2, none⟩ = some (.bool s2) ∧ w'.cell? ⟨g2, o2 + 1, none⟩ = some (.slice a2 n2 c2) ∧ w'.cell? ⟨g2, o2 + 2, none⟩ = some (.slice d2 k2 e2))
        (first | exact hS.out noY _ t1 rfl rfl | exact hS.out noY _ (ExtX.alloc t1 _) rfl rfl | exact hS.out (ob oo) _ ((ExtX.of t1).trans hE7) hob1 hobb | go_keep)
        (first | (go_at_call 193; (with_reducible refine (qsub (un X oo) wr.drew _ _ _ _ hXd hxd hvd).mono ?_); rintro ee w6 ⟨t1, u6, rfl, hu6⟩; obtain ⟨s6, a6, n6, c6, d6, k6, e6, rfl⟩ := hu6.shape; have hO6 := hO.ext0 QC.elem (hEd.trans t1); have hb6 := (hEd.trans t1).size; have hX6 := hXr.ext (hEd.trans t1)) | (refine step_append1 (l := L.take i) rfl (by rfl) slRat rfl QC.elem (by omega) hX6 i hln.out rfl rfl hO6 (.agg #[.bool s6, .slice a6 n6 c6, .slice d6 k6 e6]) (l[i] - m[i]) rfl hu6 (by omega) (by omega) ?_; intro oo2 co2 w7 hO7 hE7 hor))
      have hE8 := (hE.trans (hEd.trans t1)).own hO6 (Nat.le_refl _) hE7
      rw [htk.out] at hO7
      clear k00 k01 k02 k10 k11 k12
      go_wp2_with fail
      go_roundw
      case rel => exact ⟨i + 1, oo2, co2, by go_num, by go_num, by omega, hO7, hE8⟩
      case measure => simp [intOf]; omega
    · have hil : i = l.length := by omega
      subst hil
      rw [List.take_of_length_le (by omega)] at hO
      have hc := hO.lenCap
      have hs := hO.sl QC.elem
      go_wp2_with fail
      go_ret
      exact ⟨hE, _, rfl, oo, co, by rw [hLl'.out]; rfl, hc, hs⟩
end Go.Proofs.YtjbhcniiioepgaaGreat


namespace Go.Lin
/-- A sum of n numbers. -/
def sm : Nat → (Nat → Rat) → Rat
  | 0, _ => 0
  | n + 1, f => sm n f + f n
theorem sm_congr {n : Nat} {f g : Nat → Rat} (h : ∀ i, i < n → f i = g i) : sm n f = sm n g := by
  induction n with
  | zero => rfl
  | succ n ih => unfold sm; rw [ih fun i hi => h i (by omega), h n (by omega)]
theorem sm_zero {n : Nat} {f : Nat → Rat} (h : ∀ i, i < n → f i = 0) : sm n f = 0 := by
  induction n with
  | zero => rfl
  | succ n ih => unfold sm; rw [ih fun i hi => h i (by omega), h n (by omega)]; grind
theorem sm_add (n : Nat) (f g : Nat → Rat) : sm n (fun i => f i + g i) = sm n f + sm n g := by
  induction n with
  | zero => unfold sm; grind
  | succ n ih => unfold sm; rw [ih]; grind
theorem sm_mul (n : Nat) (a : Rat) (f : Nat → Rat) : sm n (fun i => a * f i) = a * sm n f := by
  induction n with
  | zero => unfold sm; grind
  | succ n ih => unfold sm; rw [ih]; grind
theorem sm_comm (n m : Nat) (f : Nat → Nat → Rat) : sm n (fun i => sm m (fun j => f i j)) = sm m (fun j => sm n (fun i => f i j)) := by
  induction n with
  | zero => simp only [sm]; rw [sm_zero]; intros; rfl
  | succ n ih => simp only [sm]; rw [ih, sm_add]
/-- All but one or two numbers are 0. -/
theorem sm_one {n : Nat} {f : Nat → Rat} (k : Nat) (hk : k < n) (h : ∀ i, i < n → i ≠ k → f i = 0) : sm n f = f k := by
  induction n with
  | zero => omega
  | succ n ih =>
    unfold sm
    by_cases e : k = n
    · subst e; rw [sm_zero fun i hi => h i (by omega) (by omega)]; grind
    · rw [ih (by omega) fun i hi hik => h i (by omega) hik, h n (by omega) (by omega)]; grind
theorem sm_sub (n : Nat) (f g : Nat → Rat) : sm n (fun i => f i - g i) = sm n f - sm n g := by
  induction n with
  | zero => unfold sm; grind
  | succ n ih => unfold sm; rw [ih]; grind
theorem sm_one' {n : Nat} {f g : Nat → Rat} (k : Nat) (hk : k < n) (h : ∀ i, i < n → i ≠ k → f i = g i) (h2 : f k = g k) : sm n f = sm n g :=
  sm_congr fun i hi => by by_cases e : i = k
                          · subst e; exact h2
                          · exact h i hi e
theorem sm_two {n : Nat} {f g : Nat → Rat} (i k : Nat) (hi : i < n) (hk : k < n) (hik : i ≠ k) (h : ∀ r, r < n → r ≠ i → r ≠ k → f r = g r) (h2 : f i + f k = g i + g k) : sm n f = sm n g := by
  have e : sm n (fun r => f r - g r) = 0 := by
    have e1 : ∀ r, r < n → (fun r => f r - g r) r = (fun r => (if r = i then f i - g i else 0) + (if r = k then f k - g k else 0)) r := by
      intro r hr
      show f r - g r = _
      by_cases a : r = i
      · subst a; simp [hik]; grind
      · by_cases b : r = k
        · subst b; simp [a]; grind
        · simp [a, b]; rw [h r hr a b]; grind
    rw [sm_congr e1, sm_add, sm_one i hi (fun r _ hr => by simp [hr]), sm_one k hk (fun r _ hr => by simp [hr])]
    simp; grind
  rw [sm_sub] at e; grind

abbrev F2 := Nat → Nat → Rat
/-- Rows and columns that count agree. -/
def Eqm (n c : Nat) (f g : F2) : Prop := ∀ i, i < n → ∀ j, j < c → f i j = g i j

/-- x is sent to 0. -/
def Nul (n c : Nat) (f : F2) (x : Nat → Rat) : Prop := ∀ i, i < n → sm c (fun j => f i j * x j) = 0

/-- Row operations that lead from f to g; the determinant is multiplied by d. -/
inductive RE (n c : Nat) : F2 → F2 → Rat → Prop
  | same {f g : F2} (h : Eqm n c f g) : RE n c f g 1
  | swap {f g : F2} (i k : Nat) (hi : i < n) (hk : k < n) (hik : i ≠ k) (h1 : ∀ j, j < c → g i j = f k j) (h2 : ∀ j, j < c → g k j = f i j) (h3 : ∀ r, r < n → r ≠ i → r ≠ k → ∀ j, j < c → g r j = f r j) : RE n c f g (-1)
  | scale {f g : F2} (i : Nat) (a : Rat) (hi : i < n) (ha : a ≠ 0) (h1 : ∀ j, j < c → g i j = a * f i j) (h3 : ∀ r, r < n → r ≠ i → ∀ j, j < c → g r j = f r j) : RE n c f g a
  | add {f g : F2} (i k : Nat) (a : Rat) (hi : i < n) (hk : k < n) (hik : i ≠ k) (h1 : ∀ j, j < c → g i j = f i j + a * f k j) (h3 : ∀ r, r < n → r ≠ i → ∀ j, j < c → g r j = f r j) : RE n c f g 1
  | trans {f g h : F2} {a b : Rat} (h1 : RE n c f g a) (h2 : RE n c g h b) : RE n c f h (a * b)

theorem RE.nul {n c : Nat} {f g : F2} {d : Rat} (h : RE n c f g d) (x : Nat → Rat) : Nul n c f x ↔ Nul n c g x := by
  induction h with
  | same h => 
    constructor
    · intro hn i hi; rw [← hn i hi]; exact sm_congr fun j hj => by rw [h i hi j hj]
    · intro hn i hi; rw [← hn i hi]; exact sm_congr fun j hj => by rw [h i hi j hj]
  | swap i k hi hk hik h1 h2 h3 =>
    constructor
    · intro hn r hr
      by_cases a : r = i
      · subst a; rw [← hn k hk]; exact sm_congr fun j hj => by rw [h1 j hj]
      · by_cases b : r = k
        · subst b; rw [← hn i hi]; exact sm_congr fun j hj => by rw [h2 j hj]
        · rw [← hn r hr]; exact sm_congr fun j hj => by rw [h3 r hr a b j hj]
    · intro hn r hr
      by_cases a : r = i
      · subst a; rw [← hn k hk]; exact sm_congr fun j hj => by rw [h2 j hj]
      · by_cases b : r = k
        · subst b; rw [← hn i hi]; exact sm_congr fun j hj => by rw [h1 j hj]
        · rw [← hn r hr]; exact sm_congr fun j hj => by rw [h3 r hr a b j hj]
  | @scale f g i a hi ha h1 h3 =>
    have key : sm c (fun j => g i j * x j) = a * sm c (fun j => f i j * x j) := by
      rw [← sm_mul]; exact sm_congr fun j hj => by rw [h1 j hj]; grind
    constructor
    · intro hn r hr
      by_cases e : r = i
      · subst e; rw [key, hn r hr]; grind
      · rw [← hn r hr]; exact sm_congr fun j hj => by rw [h3 r hr e j hj]
    · intro hn r hr
      by_cases e : r = i
      · subst e; have := hn r hr; rw [key] at this; rcases Rat.mul_eq_zero.1 this with h | h
        · contradiction
        · exact h
      · rw [← hn r hr]; exact sm_congr fun j hj => by rw [h3 r hr e j hj]
  | @add f g i k a hi hk hik h1 h3 =>
    have key : sm c (fun j => g i j * x j) = sm c (fun j => f i j * x j) + a * sm c (fun j => f k j * x j) := by
      rw [← sm_mul, ← sm_add]; exact sm_congr fun j hj => by rw [h1 j hj]; grind
    constructor
    · intro hn r hr
      by_cases e : r = i
      · subst e; rw [key, hn r hr, hn k hk]; grind
      · rw [← hn r hr]; exact sm_congr fun j hj => by rw [h3 r hr e j hj]
    · intro hn r hr
      by_cases e : r = i
      · subst e
        have h4 := hn r hr; rw [key] at h4
        have h5 := hn k hk
        rw [show sm c (fun j => g k j * x j) = sm c (fun j => f k j * x j) from sm_congr fun j hj => by rw [h3 k hk (by omega) j hj]] at h5
        rw [h5] at h4; grind
      · rw [← hn r hr]; exact sm_congr fun j hj => by rw [h3 r hr e j hj]
  | trans _ _ ih1 ih2 => exact ih1.trans ih2

/-- Combination of rows. -/
def cmb (n : Nat) (f : F2) (y : Nat → Rat) (j : Nat) : Rat := sm n fun i => y i * f i j
/-- The rows are independent. -/
def LI (n c : Nat) (f : F2) : Prop := ∀ y : Nat → Rat, (∀ j, j < c → cmb n f y j = 0) → ∀ i, i < n → y i = 0

/-- What is a combination of g's rows is one of f's rows, by numbers that vanish only if those of g do. -/
theorem RE.li {n c : Nat} {f g : F2} {d : Rat} (h : RE n c f g d) (hf : LI n c f) : LI n c g := by
  induction h with
  | same h => 
    intro y hy
    exact hf y fun j hj => by rw [← hy j hj]; exact sm_congr fun i hi => by rw [h i hi j hj]
  | @swap f g i k hi hk hik h1 h2 h3 =>
    intro y hy
    have := hf (fun r => if r = i then y k else if r = k then y i else y r) fun j hj => by
      rw [← hy j hj]
      refine sm_two i k hi hk hik (fun r hr a b => ?_) ?_
      · simp [a, b, h3 r hr a b j hj]
      · simp [hik.symm, h1 j hj, h2 j hj]; grind
    intro r hr
    by_cases a : r = i
    · subst a; simpa [hik.symm] using this k hk
    · by_cases b : r = k
      · subst b; simpa using this i hi
      · simpa [a, b] using this r hr
  | @scale f g i a hi ha h1 h3 =>
    intro y hy
    have := hf (fun r => if r = i then a * y i else y r) fun j hj => by
      rw [← hy j hj]
      refine sm_one' i hi (fun r hr e => ?_) ?_
      · simp [e, h3 r hr e j hj]
      · simp [h1 j hj]; grind
    intro r hr
    by_cases e : r = i
    · subst e
      have h4 := this r hr
      simp only [if_true] at h4
      rcases Rat.mul_eq_zero.1 h4 with h4 | h4
      · contradiction
      · exact h4
    · simpa [e] using this r hr
  | @add f g i k a hi hk hik h1 h3 =>
    intro y hy
    have := hf (fun r => if r = k then y k + a * y i else y r) fun j hj => by
      rw [← hy j hj]
      refine sm_two i k hi hk hik (fun r hr a b => ?_) ?_
      · simp [b, h3 r hr a j hj]
      · simp [hik, h1 j hj, h3 k hk hik.symm j hj]; grind
    intro r hr
    have hyi : y i = 0 := by simpa [hik] using this i hi
    by_cases e : r = k
    · subst e
      have h4 := this r hr
      simp [hyi] at h4; grind
    · simpa [e] using this r hr
  | trans _ _ ih1 ih2 => exact ih2 (ih1 hf)

/-- The reduced form, with its pivots. -/
structure Rref (n c : Nat) (f : F2) (p : List Nat) : Prop where
  le : p.length ≤ n
  lt : ∀ i (hi : i < p.length), p[i] < c
  inc : ∀ i k (hik : i < k) (hk : k < p.length), p[i] < p[k]
  left : ∀ i (hi : i < p.length), ∀ j, j < p[i] → f i j = 0
  one : ∀ i (hi : i < p.length), f i p[i] = 1
  zero : ∀ k (hk : k < p.length), ∀ i, i < n → i ≠ k → f i p[k] = 0
  below : ∀ i, p.length ≤ i → i < n → ∀ j, j < c → f i j = 0

/-- The null vector of a column that is no pivot. -/
def nv (f : F2) (p : List Nat) (j : Nat) : Nat → Rat := fun x => if x = j then 1 else match p.findIdx? (· == x) with | some i => - f i j | none => 0

theorem Rref.idx {n c : Nat} {f : F2} {p : List Nat} (h : Rref n c f p) (i : Nat) (hi : i < p.length) : p.findIdx? (· == p[i]) = some i := by
  rw [List.findIdx?_eq_some_iff_getElem]
  refine ⟨hi, by simp, fun j hj => ?_⟩
  have := h.inc j i hj hi
  simp; omega
theorem idx_none {p : List Nat} {x : Nat} (h : x ∉ p) : p.findIdx? (· == x) = none := by
  rw [List.findIdx?_eq_none_iff]; intro y hy; simp; rintro rfl; exact h hy
theorem Rref.nv_piv {n c : Nat} {f : F2} {p : List Nat} (h : Rref n c f p) {j : Nat} (hj : j ∉ p) (i : Nat) (hi : i < p.length) : nv f p j p[i] = - f i j := by
  unfold nv
  rw [if_neg (by rintro e; exact hj (e ▸ List.getElem_mem _)), h.idx i hi]
theorem nv_self {f : F2} {p : List Nat} (j : Nat) : nv f p j j = 1 := by simp [nv]
theorem nv_free {f : F2} {p : List Nat} {j x : Nat} (hx : x ∉ p) (hj : x ≠ j) : nv f p j x = 0 := by
  unfold nv; rw [if_neg hj, idx_none hx]

/-- A reduced form's row times any x. -/
theorem Rref.row {n c : Nat} {f : F2} {p : List Nat} (h : Rref n c f p) (i : Nat) (hi : i < p.length) (x : Nat → Rat) : sm c (fun j => f i j * x j) = x p[i] + sm c (fun j => if j ∈ p then 0 else f i j * x j) := by
  have e : sm c (fun j => f i j * x j) = sm c (fun j => (if j = p[i] then x p[i] else 0) + (if j ∈ p then 0 else f i j * x j)) := by
    refine sm_congr fun j hj => ?_
    by_cases hp : j ∈ p
    · obtain ⟨k, hk, rfl⟩ := List.getElem_of_mem hp
      by_cases hki : i = k
      · subst hki; simp [h.one i hi]; grind
      · have hne : p[k] ≠ p[i] := by
          rcases Nat.lt_or_gt_of_ne hki with a | a
          · have := h.inc i k a hk; omega
          · have := h.inc k i a hi; omega
        simp [hne, h.zero k hk i (Nat.lt_of_lt_of_le hi h.le) hki]; grind
    · have hne : j ≠ p[i] := by rintro rfl; exact hp (List.getElem_mem _)
      simp [hp, hne]; grind
  rw [e, sm_add, sm_one p[i] (h.lt i hi) (fun j _ hj => by simp [hj])]
  simp

theorem Rref.nv_nul {n c : Nat} {f : F2} {p : List Nat} (h : Rref n c f p) {j : Nat} (hj : j ∉ p) (hjc : j < c) : Nul n c f (nv f p j) := by
  intro i hi
  by_cases hip : i < p.length
  · rw [h.row i hip, h.nv_piv hj i hip, sm_one j hjc]
    · simp [hj, nv_self]; grind
    · intro k _ hkj
      by_cases hp : k ∈ p
      · simp [hp]
      · simp [hp, nv_free hp hkj]
  · exact sm_zero fun k hk => by rw [h.below i (by omega) hi k hk]; grind

end Go.Lin

