/- made: Number, Matrix. Conditions: few rows and columns. reference 06: Take; made: Matrix, Vector, Sum. Conditions: at most 2^20 rows and columns. Sums, row operations, and the reduced form of a matrix, which is unique. Conditions: none. Row echelon forms and reduced forms, column by column. Conditions: none. -/
import Derived.Test.YtjbhcniiioepgaaGreatSoM
namespace Go.Proofs.YtjbhcniiioepgaaGreat
open Go.RowKit Go.Rep Go.Lim Go.Lin

set_option maxRecDepth 100000 in
theorem number_any (X : Nat → Bool) (w : World) (v : Int) (hX : HX X w) (h1 : -9223372036854775808 ≤ v) (h2 : v ≤ 9223372036854775807) : Calls Tryz.prog 17 #[.int .i64 v] w (ROut X w QC (numQ v)) := by
  obtain ⟨W, hW, hE, b0, hz⟩ := boxes1 w #[.bool false, .slice none 0 0, .slice none 0 0] 31
  have hXW : HX (hidB X w.heap.size 1) W := hX.boxes hz
  obtain ⟨b, hb⟩ : ∃ b, w.heap.size = b := ⟨_, rfl⟩
  have hbw : w.heap.size ≤ b := by omega
  rw [hb] at b0 hz hXW
  have ha1 := Int.emod_nonneg v (show (61 : Int) ≠ 0 by omega)
  have ha2 := Int.emod_lt_of_pos v (show (0 : Int) < 61 by omega)
  have hb1 := Int.emod_nonneg (v.tdiv 61) (show (4 : Int) ≠ 0 by omega)
  have hb2 := Int.emod_lt_of_pos (v.tdiv 61) (show (0 : Int) < 4 by omega)
  have hdef : Hid (((v % 61 - 30 : Int) : Rat) / ((1 + (v.tdiv 61) % 4 : Int) : Rat) = numQ v) := hid rfl
  have hw3 : wrap64 (v.tdiv 61) = v.tdiv 61 := IntWalk.wrap64_in _ (by
    have := Int.tdiv_mul_le v (show (61:Int) ≠ 0 by omega)
    rcases Int.le_total 0 v with h | h
    · rw [Int.tdiv_eq_ediv_of_nonneg h]; omega
    · have h5 : v.tdiv 61 = -((-v) / 61) := by
        rw [← Int.neg_neg v, Int.neg_tdiv, Int.neg_neg, Int.tdiv_eq_ediv_of_nonneg (by omega)]
      rw [h5]; omega)
  obtain ⟨x, hx⟩ : ∃ x, v % 61 = x := ⟨_, rfl⟩
  obtain ⟨q, hq⟩ : ∃ q, v.tdiv 61 = q := ⟨_, rfl⟩
  rw [hq] at hw3 hb1 hb2 hdef
  obtain ⟨y, hy⟩ : ∃ y, q % 4 = y := ⟨_, rfl⟩
  rw [hx] at ha1 ha2 hdef
  rw [hy] at hb1 hb2 hdef
  have hx' := hid hx
  have hq' := hid hq
  have hy' := hid hy
  have hw1 : wrap64 (x - 30) = x - 30 := IntWalk.wrap64_in _ (by omega)
  have hw2 : wrap64 (1 + y) = 1 + y := IntWalk.wrap64_in _ (by omega)
  have hI := hid (And.intro h1 h2)
  clear h1 h2 hx hy
  go_enter Tryz.func17, Tryz.ntmps17
  go_wp2_with fail
  refine (mod_any W v 61 (by omega) (by omega)).mono ?_
  rintro e1 w1 ⟨rfl, rfl⟩
  rw [hx'.out]
  go_wp2_with fail
  refine (mod_any w1 q 4 (by omega) (by omega)).mono ?_
  rintro e2 w2 ⟨rfl, rfl⟩
  rw [hy'.out]
  go_wp2_with fail
  refine (rqfraction (hidB X b 1) w2 (x - 30) (1 + y) hXW (by omega) (by omega) (by omega) (by omega) (by omega) (Nat.le_trans (lg_small (by omega)) (by decide)) (Nat.le_trans (lg_small (by omega)) (by decide))).mono ?_
  rintro e3 w3 ⟨hE3, u3, rfl, hu3⟩
  rw [hdef.out] at hu3
  obtain ⟨s5, a5, n5, c5, d5, k5, e5, rfl⟩ := hu3.shape
  have bb := b0.ext0 hE3
  go_wp2_with ((with_reducible show wpList _ _ _ (⟨_, .store _ _ _, _, _, _, _⟩ :: _) _ _); refine st_storeBox stRat rfl rfl bb rfl rfl (one3 _ _ _ _ _ _ _) ?_; intro w7 r1 r2)
  have h7 := QC.mono _ _ _ _ le_unbox (QC.mono _ _ _ _ (le_store r2 (by omega) (by omega)) hu3)
  exact bodyPost_ret (results_box rfl rfl stRat r1 rfl) rfl ⟨ExtX.box (hE.trans hE3) r2 (by omega), _, rfl, h7⟩
end Go.Proofs.YtjbhcniiioepgaaGreat

namespace Go.Proofs.YtjbhcniiioepgaaGreat
open Go.RowKit Go.Rep Go.Lim Go.Lin

/-- A matrix whose outer slice the call itself made. -/
def TkOut (X : Nat → Bool) (w : World) (l : List (List Rat)) (e : Ending) (w' : World) : Prop := Ext w w' ∧ ∃ oo co, e = .returned (.slice oo l.length co) ∧ OL RC 1 X w.heap.size 33 w' oo co l

set_option maxRecDepth 100000 in
theorem rmtakeO (X : Nat → Bool) (w : World) (u : Value) (l : List (List Rat)) (hX : HX X w) (hu : MV (mk X w) u l) (hl : l.length ≤ 1000000) (hrl : ∀ r ∈ l, r.length ≤ 1000000) : Calls Tryz.prog 16 #[u] w (TkOut X w l) := by
  obtain ⟨ao, ca, rfl, hca, hsa⟩ := hu
  have hha := hsa.hd
  have hrl' := hid hrl
  clear hrl
  go_enter Tryz.func16, Tryz.ntmps16
  go_wp2_with fail
  go_loopw [3, 4] (fun o c wr => ∃ (i : Nat) (oo : Option Addr) (co : Nat), c = .int .i64 i ∧ o = .slice oo i co ∧ i ≤ l.length ∧ OL RC 1 X w.heap.size 33 wr oo co (l.take i) ∧ Ext w wr) (fun _ c _ => l.length - (intOf c).toNat)
  case atStart => exact ⟨0, none, 0, rfl, rfl, Nat.zero_le _, OL.nil _ _ _ _ _ _, ExtX.refl _⟩
  case round =>
    obtain ⟨i, oo, co, rfl, rfl, hi, hO, hE⟩ := hrel
    have hXr : HX X wr := hX.ext hE
    have hXu : HX (un X oo) wr := hO.unX hXr
    have hbase := hE.size
    by_cases hlt : i < l.length
    · have hsr : Sl RV 1 (mk (un X oo) wr) ao l := hsa.old RV.mono hE (fun j hj => hO.ob_lt hj)
      have htk := hid (take_snoc l i hlt)
      have hln := hid (len_take hi)
      obtain ⟨a1, c1, hX1, hc1, hcl1, hq1⟩ := hsr.row i hlt
      have k00 := hc1.out noY wr (ExtX.refl _) rfl
      have hlr := hid (hrl'.out l[i] (List.getElem_mem _))
      go_wp2_with (with_reducible refine up_ix1 slRats (by omega) (by assumption) ?_)
      refine (rqtakelist (un X oo) wr _ l[i] hXu ⟨a1, c1, rfl, hcl1, hq1⟩ hlr.out).mono ?_
      rintro e w6 ⟨hE6, u6, rfl, hu6⟩
      obtain ⟨a6, c6, rfl, hcl6, hs6⟩ := hu6
      have hO6 := hO.ext0 RC.elem hE6
      have hb6 := hE6.size
      clear k00
      go_wp2_with (at_builtin; refine st_append1n (l := l.take i) slRats rfl RC.elem (by omega) (hXr.ext hE6) i hln.out rfl rfl hO6 (.slice a6 l[i].length c6) l[i] rfl ⟨a6, c6, rfl, hcl6, hs6⟩ (by omega) (by omega) ?_; intro oo2 co2 w7 hO7 hE7 hor)
      have hE8 := (hE.trans hE6).own hO6 (Nat.le_refl _) hE7
      rw [htk.out] at hO7
      go_roundw
      case rel => exact ⟨i + 1, oo2, co2, by go_num, by go_num, by omega, hO7, hE8⟩
      case measure => simp [intOf]; omega
    · have hil : i = l.length := by omega
      subst hil
      rw [List.take_length] at hO
      go_wp2_with fail
      go_ret
      exact ⟨hE, oo, co, rfl, hO⟩
theorem rmtake (X : Nat → Bool) (w : World) (u : Value) (l : List (List Rat)) (hX : HX X w) (hu : MV (mk X w) u l) (hl : l.length ≤ 1000000) (hrl : ∀ r ∈ l, r.length ≤ 1000000) : Calls Tryz.prog 16 #[u] w (ROut X w MC l) :=
  (rmtakeO X w u l hX hu hl hrl).mono fun _ _ ⟨hE, oo, co, he, hO⟩ => ⟨hE, _, he, oo, co, rfl, hO.lenCap, hO.sl RC.elem⟩

theorem wrap_add {p j : Nat} (h : p + j ≤ 1000000) : wrap64 ((p : Int) + (j : Int)) = ((p + j : Nat) : Int) := by
  rw [IntWalk.wrap64_in _ (by omega)]; omega
theorem wrap_mul {i c p : Nat} (hp : i * c = p) (h : p ≤ 1000000) : wrap64 ((i : Int) * (c : Int)) = (p : Int) := by
  rw [← Int.natCast_mul, hp]; exact IntWalk.wrap64_in _ (by omega)
theorem matL_len (r c : Nat) (raw : List Int) : (matL r c raw).length = r := by simp [matL]
theorem matL_row (r c : Nat) (raw : List Int) (i : Nat) (hi : i < r) (h : i < (matL r c raw).length) : (matL r c raw)[i] = (List.range c).map fun j => numQ (atL raw (i * c + j)) := by simp [matL]

set_option maxRecDepth 100000 in
theorem matrix_any (X : Nat → Bool) (w : World) (r c : Nat) (ao : Option Addr) (raw : List Int) (cap : Nat) (hX : HX X w) (hs : Sl (IntIn .i64) 1 (mk X w) ao raw) (hr : r ≤ 900) (hc : c ≤ 900) (hraw : ∀ x ∈ raw, -9223372036854775808 ≤ x ∧ x ≤ 9223372036854775807) : Calls Tryz.prog 14 #[.int .i64 (r : Int), .int .i64 (c : Int), .slice ao raw.length cap] w (ROut X w MC (matL r c raw)) := by
  obtain ⟨M, hM⟩ : ∃ M, matL r c raw = M := ⟨_, rfl⟩
  have hMl : Hid (M.length = r) := hid (by rw [← hM, matL_len])
  have hMr : Hid (∀ i (hi : i < r) (h : i < M.length), M[i] = (List.range c).map fun j => numQ (atL raw (i * c + j))) := hid fun i hi h => by subst hM; exact matL_row r c raw i hi h
  have hat : Hid (∀ i, -9223372036854775808 ≤ atL raw i ∧ atL raw i ≤ 9223372036854775807) := hid fun i => by
    unfold atL
    by_cases h : i < raw.length
    · simp only [List.getD_eq_getElem?_getD, List.getElem?_eq_getElem h, Option.getD_some]; exact hraw _ (List.getElem_mem h)
    · simp only [List.getD_eq_getElem?_getD, List.getElem?_eq_none (Nat.le_of_not_lt h), Option.getD_none]; omega
  have hMl2 : M.length ≤ r := by rw [hMl.out]; exact Nat.le_refl _
  have hMl3 : r ≤ M.length := by rw [hMl.out]; exact Nat.le_refl _
  rw [hM]
  clear hM hraw
  go_enter Tryz.func14, Tryz.ntmps14
  go_wp2_with fail
  go_loopw [7, 8] (fun o cc wr => ∃ (i : Nat) (oo : Option Addr) (co : Nat), cc = .int .i64 i ∧ o = .slice oo i co ∧ i ≤ r ∧ OL RC 1 X w.heap.size 33 wr oo co (M.take i) ∧ Ext w wr) (fun _ cc _ => r - (intOf cc).toNat)
  case atStart => exact ⟨0, none, 0, rfl, rfl, Nat.zero_le _, OL.nil _ _ _ _ _ _, ExtX.refl _⟩
  case round =>
    obtain ⟨i, oo, co, rfl, rfl, hi, hO, hE⟩ := hrel
    have hXr : HX X wr := hX.ext hE
    have hXu : HX (un X oo) wr := hO.unX hXr
    have hbase := hE.size
    by_cases hlt : i < r
    · have hltM : i < M.length := by omega
      have htk := hid (take_snoc M i hltM)
      have hln := hid (len_take (l := M) (i := i) (by omega))
      obtain ⟨R, hR⟩ : ∃ R, M[i] = R := ⟨_, rfl⟩
      have hRd := hMr.out i hlt hltM
      rw [hR] at hRd htk
      have hRl : Hid (R.length = c) := hid (by rw [hRd]; simp)
      have hRi : Hid (∀ j (hj : j < c) (h : j < R.length), R[j] = numQ (atL raw (i * c + j))) := hid fun j hj h => by subst hRd; simp
      have hRl2 : R.length ≤ c := by rw [hRl.out]; exact Nat.le_refl _
      have hRl3 : c ≤ R.length := by rw [hRl.out]; exact Nat.le_refl _
      have hic : i * c ≤ 810000 := Nat.le_trans (Nat.mul_le_mul (show i ≤ 900 by omega) hc) (by decide)
      obtain ⟨p, hp⟩ : ∃ p, i * c = p := ⟨_, rfl⟩
      rw [hp] at hRi hic
      have hw1 : wrap64 ((i : Int) * (c : Int)) = (p : Int) := wrap_mul hp (Nat.le_trans hic (by decide))
      clear hp hRd hR
      obtain ⟨wo, hwo⟩ : ∃ wo, wo = wr := ⟨_, rfl⟩
      subst hwo
      go_wp2_with fail
      go_loopw [9, 10] (fun o cc wx => ∃ (j : Nat) (ro : Option Addr) (cr : Nat), cc = .int .i64 j ∧ o = .slice ro j cr ∧ j ≤ c ∧ OL QC 3 (un X oo) wo.heap.size 31 wx ro cr (R.take j) ∧ Ext wo wx) (fun _ cc _ => c - (intOf cc).toNat)
      case atStart => exact ⟨0, none, 0, rfl, rfl, Nat.zero_le _, OL.nil _ _ _ _ _ _, ExtX.refl _⟩
      case round =>
        obtain ⟨j, ro, cr, rfl, rfl, hj, hOr, hEr⟩ := hrel
        have hXx : HX (un X oo) wr := hXu.ext hEr
        have hXy : HX (un (un X oo) ro) wr := hOr.unX hXx
        have hbr := hEr.size
        by_cases hlj : j < c
        · have hljR : j < R.length := by omega
          have htj := hid (take_snoc R j hljR)
          have hlnj := hid (len_take (l := R) (i := j) (by omega))
          have hRj := hRi.out j hlj hljR
          rw [hRj] at htj
          have hv := hat.out (p + j)
          have hpj : p + j ≤ 1000000 := Nat.le_trans (Nat.add_le_add hic (Nat.le_of_lt (Nat.lt_of_lt_of_le hlj hc))) (by decide)
          have hw2 : wrap64 ((p : Int) + (j : Int)) = ((p + j : Nat) : Int) := wrap_add hpj
          obtain ⟨z, hz⟩ : ∃ z, p + j = z := ⟨_, rfl⟩
          have hzI : Hid ((p : Int) + (j : Int) = (z : Int)) := hid (by rw [← hz, Int.natCast_add])
          rw [hz] at hw2 hpj hv htj
          obtain ⟨y, hy⟩ : ∃ y, atL raw z = y := ⟨_, rfl⟩
          rw [hy] at hv htj
          have hy' := hid hy
          clear hy hRj hz
          have hs2 := hs.mono (IntIn.mono _) (mk_ext (hE.trans hEr))
          go_wp2_with fail
          rw [hzI.out]
          refine (at_any X wr ao raw cap z hs2 hpj).mono ?_
          rintro e w5 ⟨rfl, rfl⟩
          rw [hy'.out]
          go_wp2_with fail
          refine (number_any (un (un X oo) ro) w5 y hXy hv.1 hv.2).mono ?_
          rintro e w6 ⟨hE6, u6, rfl, hu6⟩
          obtain ⟨s6, a6, n6, c6, d6, k6, e6, rfl⟩ := hu6.shape
          have hO6 := hOr.ext0 QC.elem hE6
          have hb6 := hE6.size
          go_wp2_with (at_builtin; refine st_append1n (l := R.take j) slRat rfl QC.elem (by omega) (hXx.ext hE6) j hlnj.out rfl rfl hO6 (.agg #[.bool s6, .slice a6 n6 c6, .slice d6 k6 e6]) (numQ y) rfl hu6 (by omega) (by omega) ?_; intro oo2 co2 w7 hO7 hE7 hor)
          have hE8 := (hEr.trans hE6).own hO6 (Nat.le_refl _) hE7
          rw [htj.out] at hO7
          go_roundw
          case rel => exact ⟨j + 1, oo2, co2, by go_num, by go_num, by omega, hO7, hE8⟩
          case measure => simp [intOf]; omega
        · have hjc : j = c := by omega
          subst hjc
          rw [List.take_of_length_le (by omega)] at hOr
          have hcr := hOr.lenCap
          have hsR := hOr.sl QC.elem
          have hO6 := hO.ext0 RC.elem hEr
          have hRC : RC (mk (un X oo) wr) (.slice ro j cr) R := ⟨ro, cr, by rw [hRl.out], hcr, hsR⟩
          go_wp2_with (at_builtin; refine st_append1n (l := M.take i) slRats rfl RC.elem (by omega) (hXr.ext hEr) i hln.out rfl rfl hO6 (.slice ro j cr) R rfl hRC (by omega) (by omega) ?_; intro oo2 co2 w7 hO7 hE7 hor)
          have hE8 := (hE.trans hEr).own hO6 (Nat.le_refl _) hE7
          rw [htk.out] at hO7
          go_roundw
          case rel => exact ⟨i + 1, oo2, co2, by go_num, by go_num, by omega, hO7, hE8⟩
          case measure => simp [intOf]; omega
    · have hil : i = r := by omega
      subst hil
      rw [List.take_of_length_le (by omega)] at hO
      have hc := hO.lenCap
      have hs := hO.sl RC.elem
      go_wp2_with fail
      go_ret
      exact ⟨hE, _, rfl, oo, co, by rw [hMl.out]; rfl, hc, hs⟩

set_option maxRecDepth 100000 in
theorem sum_any (X : Nat → Bool) (w : World) (u v x : Value) (l m : List Rat) (c : Rat) (B : Nat) (hX : HX X w) (hu : RV (mk X w) u l) (hv : RV (mk X w) v m) (hx : QV (mk X w) x c) (hl : l.length ≤ 1000000) (hml : m.length = l.length) (hb : BR B m) (hB : B + hq c ≤ 68719476736) : Calls Tryz.prog 18 #[u, v, x] w (ROut X w RC (List.zipWith (· + ·) l (m.map (· * c)))) := by
  obtain ⟨s2, a2, n2, c2, d2, k2, e2, rfl⟩ := hx.shape
  obtain ⟨W, hW, hEW, b0, hz⟩ := boxes1 w #[.bool s2, .slice a2 n2 c2, .slice d2 k2 e2] 31
  have hXW : HX X W := hX.ext hEW
  have huW := mkx RV.mono hu hEW
  have hvW := mkx RV.mono hv hEW
  have hxW := mkx QV.mono hx hEW
  obtain ⟨b, hb'⟩ : ∃ b, w.heap.size = b := ⟨_, rfl⟩
  rw [hb'] at b0 hz
  have k00 := b0.cell 0 rfl
  have k01 := b0.cell 1 rfl
  have k02 := b0.cell 2 rfl
  have hbb := hid (show BR 68719476736 (m.map (· * c)) from fun q hq => by
    obtain ⟨y, hy, rfl⟩ := List.mem_map.1 hq
    have := hb y hy; have := hq_mul y c; omega)
  have hml' := hid hml
  have hl' := hid hl
  clear hu hv hx hb hB hml hl
  go_enter Tryz.func18, Tryz.ntmps18
  go_wp2_with fail
  refine (rtimes X W _ _ m c hXW hvW hxW (by rw [hml'.out]; exact hl'.out)).mono ?_
  rintro e w5 ⟨hE5, u5, rfl, hu5⟩
  clear k00 k01 k02
  go_wp2_with fail
  refine (rplus X w5 _ _ l _ (hXW.ext hE5) (mkx RV.mono huW hE5) (hu5.rv hbb.out) hl'.out (by rw [List.length_map]; exact hml'.out)).mono ?_
  rintro e w6 ⟨hE6, u6, rfl, hu6⟩
  go_wp2_with fail
  go_ret
  exact ⟨hEW.trans (hE5.trans hE6), u6, rfl, hu6⟩
end Go.Proofs.YtjbhcniiioepgaaGreat

namespace Go.Lin
/-- A sum of n numbers. -/
def sm : Nat → (Nat → Rat) → Rat
  | 0, _ => 0
  | n + 1, f => sm n f + f n
theorem sm_congr {n : Nat} {f g : Nat → Rat} (h : ∀ i, i < n → f i = g i) : sm n f = sm n g := by
  induction n with
  | zero => rfl
  | succ n ih => unfold sm; rw [ih fun i hi => h i (by omega), h n (by omega)]
theorem sm_zero {n : Nat} {f : Nat → Rat} (h : ∀ i, i < n → f i = 0) : sm n f = 0 := by
  induction n with
  | zero => rfl
  | succ n ih => unfold sm; rw [ih fun i hi => h i (by omega), h n (by omega)]; grind
theorem sm_add (n : Nat) (f g : Nat → Rat) : sm n (fun i => f i + g i) = sm n f + sm n g := by
  induction n with
  | zero => unfold sm; grind
  | succ n ih => unfold sm; rw [ih]; grind
theorem sm_mul (n : Nat) (a : Rat) (f : Nat → Rat) : sm n (fun i => a * f i) = a * sm n f := by
  induction n with
  | zero => unfold sm; grind
  | succ n ih => unfold sm; rw [ih]; grind
theorem sm_comm (n m : Nat) (f : Nat → Nat → Rat) : sm n (fun i => sm m (fun j => f i j)) = sm m (fun j => sm n (fun i => f i j)) := by
  induction n with
  | zero => simp only [sm]; rw [sm_zero]; intros; rfl
  | succ n ih => simp only [sm]; rw [ih, sm_add]
/-- All but one or two numbers are 0. -/
theorem sm_one {n : Nat} {f : Nat → Rat} (k : Nat) (hk : k < n) (h : ∀ i, i < n → i ≠ k → f i = 0) : sm n f = f k := by
  induction n with
  | zero => omega
  | succ n ih =>
    unfold sm
    by_cases e : k = n
    · subst e; rw [sm_zero fun i hi => h i (by omega) (by omega)]; grind
    · rw [ih (by omega) fun i hi hik => h i (by omega) hik, h n (by omega) (by omega)]; grind
theorem sm_sub (n : Nat) (f g : Nat → Rat) : sm n (fun i => f i - g i) = sm n f - sm n g := by
  induction n with
  | zero => unfold sm; grind
  | succ n ih => unfold sm; rw [ih]; grind
theorem sm_one' {n : Nat} {f g : Nat → Rat} (k : Nat) (hk : k < n) (h : ∀ i, i < n → i ≠ k → f i = g i) (h2 : f k = g k) : sm n f = sm n g :=
  sm_congr fun i hi => by by_cases e : i = k
                          · subst e; exact h2
                          · exact h i hi e
theorem sm_two {n : Nat} {f g : Nat → Rat} (i k : Nat) (hi : i < n) (hk : k < n) (hik : i ≠ k) (h : ∀ r, r < n → r ≠ i → r ≠ k → f r = g r) (h2 : f i + f k = g i + g k) : sm n f = sm n g := by
  have e : sm n (fun r => f r - g r) = 0 := by
    have e1 : ∀ r, r < n → (fun r => f r - g r) r = (fun r => (if r = i then f i - g i else 0) + (if r = k then f k - g k else 0)) r := by
      intro r hr
      show f r - g r = _
      by_cases a : r = i
      · subst a; simp [hik]; grind
      · by_cases b : r = k
        · subst b; simp [a]; grind
        · simp [a, b]; rw [h r hr a b]; grind
    rw [sm_congr e1, sm_add, sm_one i hi (fun r _ hr => by simp [hr]), sm_one k hk (fun r _ hr => by simp [hr])]
    simp; grind
  rw [sm_sub] at e; grind

abbrev F2 := Nat → Nat → Rat
/-- Rows and columns that count agree. -/
def Eqm (n c : Nat) (f g : F2) : Prop := ∀ i, i < n → ∀ j, j < c → f i j = g i j

/-- x is sent to 0. -/
def Nul (n c : Nat) (f : F2) (x : Nat → Rat) : Prop := ∀ i, i < n → sm c (fun j => f i j * x j) = 0

/-- Row operations that lead from f to g; the determinant is multiplied by d. -/
inductive RE (n c : Nat) : F2 → F2 → Rat → Prop
  | same {f g : F2} (h : Eqm n c f g) : RE n c f g 1
  | swap {f g : F2} (i k : Nat) (hi : i < n) (hk : k < n) (hik : i ≠ k) (h1 : ∀ j, j < c → g i j = f k j) (h2 : ∀ j, j < c → g k j = f i j) (h3 : ∀ r, r < n → r ≠ i → r ≠ k → ∀ j, j < c → g r j = f r j) : RE n c f g (-1)
  | scale {f g : F2} (i : Nat) (a : Rat) (hi : i < n) (ha : a ≠ 0) (h1 : ∀ j, j < c → g i j = a * f i j) (h3 : ∀ r, r < n → r ≠ i → ∀ j, j < c → g r j = f r j) : RE n c f g a
  | add {f g : F2} (i k : Nat) (a : Rat) (hi : i < n) (hk : k < n) (hik : i ≠ k) (h1 : ∀ j, j < c → g i j = f i j + a * f k j) (h3 : ∀ r, r < n → r ≠ i → ∀ j, j < c → g r j = f r j) : RE n c f g 1
  | trans {f g h : F2} {a b : Rat} (h1 : RE n c f g a) (h2 : RE n c g h b) : RE n c f h (a * b)

theorem RE.ne {n c : Nat} {f g : F2} {d : Rat} (h : RE n c f g d) : d ≠ 0 := by
  induction h with
  | same => grind
  | swap => grind
  | scale => assumption
  | add => grind
  | trans _ _ ih1 ih2 => intro e; rcases Rat.mul_eq_zero.1 e with h | h <;> contradiction

theorem RE.nul {n c : Nat} {f g : F2} {d : Rat} (h : RE n c f g d) (x : Nat → Rat) : Nul n c f x ↔ Nul n c g x := by
  induction h with
  | same h => 
    constructor
    · intro hn i hi; rw [← hn i hi]; exact sm_congr fun j hj => by rw [h i hi j hj]
    · intro hn i hi; rw [← hn i hi]; exact sm_congr fun j hj => by rw [h i hi j hj]
  | swap i k hi hk hik h1 h2 h3 =>
    constructor
    · intro hn r hr
      by_cases a : r = i
      · subst a; rw [← hn k hk]; exact sm_congr fun j hj => by rw [h1 j hj]
      · by_cases b : r = k
        · subst b; rw [← hn i hi]; exact sm_congr fun j hj => by rw [h2 j hj]
        · rw [← hn r hr]; exact sm_congr fun j hj => by rw [h3 r hr a b j hj]
    · intro hn r hr
      by_cases a : r = i
      · subst a; rw [← hn k hk]; exact sm_congr fun j hj => by rw [h2 j hj]
      · by_cases b : r = k
        · subst b; rw [← hn i hi]; exact sm_congr fun j hj => by rw [h1 j hj]
        · rw [← hn r hr]; exact sm_congr fun j hj => by rw [h3 r hr a b j hj]
  | @scale f g i a hi ha h1 h3 =>
    have key : sm c (fun j => g i j * x j) = a * sm c (fun j => f i j * x j) := by
      rw [← sm_mul]; exact sm_congr fun j hj => by rw [h1 j hj]; grind
    constructor
    · intro hn r hr
      by_cases e : r = i
      · subst e; rw [key, hn r hr]; grind
      · rw [← hn r hr]; exact sm_congr fun j hj => by rw [h3 r hr e j hj]
    · intro hn r hr
      by_cases e : r = i
      · subst e; have := hn r hr; rw [key] at this; rcases Rat.mul_eq_zero.1 this with h | h
        · contradiction
        · exact h
      · rw [← hn r hr]; exact sm_congr fun j hj => by rw [h3 r hr e j hj]
  | @add f g i k a hi hk hik h1 h3 =>
    have key : sm c (fun j => g i j * x j) = sm c (fun j => f i j * x j) + a * sm c (fun j => f k j * x j) := by
      rw [← sm_mul, ← sm_add]; exact sm_congr fun j hj => by rw [h1 j hj]; grind
    constructor
    · intro hn r hr
      by_cases e : r = i
      · subst e; rw [key, hn r hr, hn k hk]; grind
      · rw [← hn r hr]; exact sm_congr fun j hj => by rw [h3 r hr e j hj]
    · intro hn r hr
      by_cases e : r = i
      · subst e
        have h4 := hn r hr; rw [key] at h4
        have h5 := hn k hk
        rw [show sm c (fun j => g k j * x j) = sm c (fun j => f k j * x j) from sm_congr fun j hj => by rw [h3 k hk (by omega) j hj]] at h5
        rw [h5] at h4; grind
      · rw [← hn r hr]; exact sm_congr fun j hj => by rw [h3 r hr e j hj]
  | trans _ _ ih1 ih2 => exact ih1.trans ih2

/-- Combination of rows. -/
def cmb (n : Nat) (f : F2) (y : Nat → Rat) (j : Nat) : Rat := sm n fun i => y i * f i j
/-- The rows are independent. -/
def LI (n c : Nat) (f : F2) : Prop := ∀ y : Nat → Rat, (∀ j, j < c → cmb n f y j = 0) → ∀ i, i < n → y i = 0

/-- What is a combination of g's rows is one of f's rows, by numbers that vanish only if those of g do. -/
theorem RE.li {n c : Nat} {f g : F2} {d : Rat} (h : RE n c f g d) (hf : LI n c f) : LI n c g := by
  induction h with
  | same h => 
    intro y hy
    exact hf y fun j hj => by rw [← hy j hj]; exact sm_congr fun i hi => by rw [h i hi j hj]
  | @swap f g i k hi hk hik h1 h2 h3 =>
    intro y hy
    have := hf (fun r => if r = i then y k else if r = k then y i else y r) fun j hj => by
      rw [← hy j hj]
      refine sm_two i k hi hk hik (fun r hr a b => ?_) ?_
      · simp [a, b, h3 r hr a b j hj]
      · simp [hik.symm, h1 j hj, h2 j hj]; grind
    intro r hr
    by_cases a : r = i
    · subst a; simpa [hik.symm] using this k hk
    · by_cases b : r = k
      · subst b; simpa using this i hi
      · simpa [a, b] using this r hr
  | @scale f g i a hi ha h1 h3 =>
    intro y hy
    have := hf (fun r => if r = i then a * y i else y r) fun j hj => by
      rw [← hy j hj]
      refine sm_one' i hi (fun r hr e => ?_) ?_
      · simp [e, h3 r hr e j hj]
      · simp [h1 j hj]; grind
    intro r hr
    by_cases e : r = i
    · subst e
      have h4 := this r hr
      simp only [if_true] at h4
      rcases Rat.mul_eq_zero.1 h4 with h4 | h4
      · contradiction
      · exact h4
    · simpa [e] using this r hr
  | @add f g i k a hi hk hik h1 h3 =>
    intro y hy
    have := hf (fun r => if r = k then y k + a * y i else y r) fun j hj => by
      rw [← hy j hj]
      refine sm_two i k hi hk hik (fun r hr a b => ?_) ?_
      · simp [b, h3 r hr a j hj]
      · simp [hik, h1 j hj, h3 k hk hik.symm j hj]; grind
    intro r hr
    have hyi : y i = 0 := by simpa [hik] using this i hi
    by_cases e : r = k
    · subst e
      have h4 := this r hr
      simp [hyi] at h4; grind
    · simpa [e] using this r hr
  | trans _ _ ih1 ih2 => exact ih2 (ih1 hf)

/-- The reduced form, with its pivots. -/
structure Rref (n c : Nat) (f : F2) (p : List Nat) : Prop where
  le : p.length ≤ n
  lt : ∀ i (hi : i < p.length), p[i] < c
  inc : ∀ i k (hik : i < k) (hk : k < p.length), p[i] < p[k]
  left : ∀ i (hi : i < p.length), ∀ j, j < p[i] → f i j = 0
  one : ∀ i (hi : i < p.length), f i p[i] = 1
  zero : ∀ k (hk : k < p.length), ∀ i, i < n → i ≠ k → f i p[k] = 0
  below : ∀ i, p.length ≤ i → i < n → ∀ j, j < c → f i j = 0

/-- The null vector of a column that is no pivot. -/
def nv (f : F2) (p : List Nat) (j : Nat) : Nat → Rat := fun x => if x = j then 1 else match p.findIdx? (· == x) with | some i => - f i j | none => 0

theorem Rref.idx {n c : Nat} {f : F2} {p : List Nat} (h : Rref n c f p) (i : Nat) (hi : i < p.length) : p.findIdx? (· == p[i]) = some i := by
  rw [List.findIdx?_eq_some_iff_getElem]
  refine ⟨hi, by simp, fun j hj => ?_⟩
  have := h.inc j i hj hi
  simp; omega
theorem idx_none {p : List Nat} {x : Nat} (h : x ∉ p) : p.findIdx? (· == x) = none := by
  rw [List.findIdx?_eq_none_iff]; intro y hy; simp; rintro rfl; exact h hy
theorem Rref.nv_piv {n c : Nat} {f : F2} {p : List Nat} (h : Rref n c f p) {j : Nat} (hj : j ∉ p) (i : Nat) (hi : i < p.length) : nv f p j p[i] = - f i j := by
  unfold nv
  rw [if_neg (by rintro e; exact hj (e ▸ List.getElem_mem _)), h.idx i hi]
theorem nv_self {f : F2} {p : List Nat} (j : Nat) : nv f p j j = 1 := by simp [nv]
theorem nv_free {f : F2} {p : List Nat} {j x : Nat} (hx : x ∉ p) (hj : x ≠ j) : nv f p j x = 0 := by
  unfold nv; rw [if_neg hj, idx_none hx]

/-- A reduced form's row times any x. -/
theorem Rref.row {n c : Nat} {f : F2} {p : List Nat} (h : Rref n c f p) (i : Nat) (hi : i < p.length) (x : Nat → Rat) : sm c (fun j => f i j * x j) = x p[i] + sm c (fun j => if j ∈ p then 0 else f i j * x j) := by
  have e : sm c (fun j => f i j * x j) = sm c (fun j => (if j = p[i] then x p[i] else 0) + (if j ∈ p then 0 else f i j * x j)) := by
    refine sm_congr fun j hj => ?_
    by_cases hp : j ∈ p
    · obtain ⟨k, hk, rfl⟩ := List.getElem_of_mem hp
      by_cases hki : i = k
      · subst hki; simp [h.one i hi]; grind
      · have hne : p[k] ≠ p[i] := by
          rcases Nat.lt_or_gt_of_ne hki with a | a
          · have := h.inc i k a hk; omega
          · have := h.inc k i a hi; omega
        simp [hne, h.zero k hk i (Nat.lt_of_lt_of_le hi h.le) hki]; grind
    · have hne : j ≠ p[i] := by rintro rfl; exact hp (List.getElem_mem _)
      simp [hp, hne]; grind
  rw [e, sm_add, sm_one p[i] (h.lt i hi) (fun j _ hj => by simp [hj])]
  simp

theorem Rref.nv_nul {n c : Nat} {f : F2} {p : List Nat} (h : Rref n c f p) {j : Nat} (hj : j ∉ p) (hjc : j < c) : Nul n c f (nv f p j) := by
  intro i hi
  by_cases hip : i < p.length
  · rw [h.row i hip, h.nv_piv hj i hip, sm_one j hjc]
    · simp [hj, nv_self]; grind
    · intro k _ hkj
      by_cases hp : k ∈ p
      · simp [hp]
      · simp [hp, nv_free hp hkj]
  · exact sm_zero fun k hk => by rw [h.below i (by omega) hi k hk]; grind

/-- The null vector of a column vanishes behind that column. -/
theorem Rref.nv_supp {n c : Nat} {f : F2} {p : List Nat} (h : Rref n c f p) {j : Nat} (hj : j ∉ p) {x : Nat} (hx : j < x) : nv f p j x = 0 := by
  by_cases hp : x ∈ p
  · obtain ⟨k, hk, rfl⟩ := List.getElem_of_mem hp
    rw [h.nv_piv hj k hk, h.left k hk j hx]; grind
  · exact nv_free hp (by omega)

theorem Rref.sub {n c : Nat} {f g : F2} {p q : List Nat} (hf : Rref n c f p) (hg : Rref n c g q) (hn : ∀ x, Nul n c f x → Nul n c g x) (j : Nat) (hj : j ∈ q) : j ∈ p := by
  refine Classical.byContradiction fun hjp => ?_
  obtain ⟨k, hk, rfl⟩ := List.getElem_of_mem hj
  have h1 := hn _ (hf.nv_nul hjp (hg.lt k hk)) k (Nat.lt_of_lt_of_le hk hg.le)
  rw [sm_one q[k] (hg.lt k hk)] at h1
  · rw [hg.one k hk, nv_self] at h1; grind
  · intro x _ hx
    rcases Nat.lt_or_gt_of_ne hx with a | a
    · rw [hg.left k hk x a]; grind
    · rw [hf.nv_supp hjp a]; grind

theorem inc_eq : ∀ (p q : List Nat), p.Pairwise (· < ·) → q.Pairwise (· < ·) → (∀ x, x ∈ p ↔ x ∈ q) → p = q
  | [], [], _, _, _ => rfl
  | [], b :: q, _, _, h => by have := (h b).2 (by simp); simp at this
  | a :: p, [], _, _, h => by have := (h a).1 (by simp); simp at this
  | a :: p, b :: q, hp, hq, h => by
    rw [List.pairwise_cons] at hp hq
    have hab : a = b := by
      have h1 := (h a).1 (by simp)
      have h2 := (h b).2 (by simp)
      simp at h1 h2
      rcases h1 with h1 | h1
      · exact h1
      · rcases h2 with h2 | h2
        · exact h2.symm
        · have := hq.1 a h1; have := hp.1 b h2; omega
    subst hab
    rw [inc_eq p q hp.2 hq.2]
    intro x
    have h3 := h x
    simp at h3
    constructor
    · intro hx
      have := hp.1 x hx
      rcases h3.1 (.inr hx) with e | e
      · omega
      · exact e
    · intro hx
      have := hq.1 x hx
      rcases h3.2 (.inr hx) with e | e
      · omega
      · exact e
theorem Rref.pw {n c : Nat} {f : F2} {p : List Nat} (h : Rref n c f p) : p.Pairwise (· < ·) := by
  rw [List.pairwise_iff_getElem]; intro i j hi hj hij; exact h.inc i j hij hj

/-- The reduced form is determined by what it sends to 0. -/
theorem Rref.unique {n c : Nat} {f g : F2} {p q : List Nat} (hf : Rref n c f p) (hg : Rref n c g q) (hn : ∀ x, Nul n c f x ↔ Nul n c g x) : p = q ∧ Eqm n c f g := by
  have hpq : p = q := inc_eq p q hf.pw hg.pw fun x => ⟨hg.sub hf (fun x h => (hn x).2 h) x, hf.sub hg (fun x h => (hn x).1 h) x⟩
  subst hpq
  refine ⟨rfl, fun i hi j hj => ?_⟩
  by_cases hip : i < p.length
  · by_cases hjp : j ∈ p
    · obtain ⟨k, hk, rfl⟩ := List.getElem_of_mem hjp
      by_cases e : i = k
      · subst e; rw [hf.one i hip, hg.one i hip]
      · rw [hf.zero k hk i hi e, hg.zero k hk i hi e]
    · have h1 := (hn _).1 (hf.nv_nul hjp hj) i hi
      rw [hg.row i hip, hf.nv_piv hjp i hip, sm_one j hj] at h1
      · simp [hjp, nv_self] at h1; grind
      · intro k _ hkj
        by_cases hp : k ∈ p
        · simp [hp]
        · simp [hp, nv_free hp hkj]
  · rw [hf.below i (by omega) hi j hj, hg.below i (by omega) hi j hj]
end Go.Lin

namespace Go.Lin
theorem RE.cast {n c : Nat} {f g : F2} {a b : Rat} (h : RE n c f g a) (e : a = b) : RE n c f g b := e ▸ h
theorem RE.then_ {n c : Nat} {f g h : F2} {a b d : Rat} (h1 : RE n c f g a) (h2 : RE n c g h b) (e : a * b = d) : RE n c f h d := e ▸ h1.trans h2
/-- Multiples of one row are added to all others. -/
theorem RE.addmany {n c : Nat} {f g : F2} (k : Nat) (hk : k < n) (a : Nat → Rat) (h1 : ∀ i, i < n → i ≠ k → ∀ j, j < c → g i j = f i j + a i * f k j) (h2 : ∀ j, j < c → g k j = f k j) : RE n c f g 1 := by
  have key : ∀ t, t ≤ n → RE n c f (fun i j => if i < t then g i j else f i j) 1 := by
    intro t
    induction t with
    | zero => intro _; exact .same fun i _ j _ => by simp
    | succ t ih =>
      intro ht
      refine (ih (by omega)).then_ (b := 1) ?_ (by grind)
      by_cases e : t = k
      · subst e
        refine .same fun i hi j hj => ?_
        by_cases a : i < t
        · simp [a, show i < t + 1 by omega]
        · by_cases b : i = t
          · subst b; simp [h2 j hj]
          · simp [a, show ¬ i < t + 1 by omega]
      · refine .add t k (a t) (by omega) hk e (fun j hj => ?_) (fun r hr hrt j hj => ?_)
        · have h3 := h1 t (by omega) e j hj
          by_cases b : k < t
          · simp [b, h3, h2 j hj]
          · simp [b, h3]
        · by_cases a : r < t
          · simp [a, show r < t + 1 by omega]
          · simp [a, show ¬ r < t + 1 by omega]
  refine (key n (Nat.le_refl _)).then_ (.same fun i hi j hj => ?_) (by grind)
  simp [hi]

/-- A row echelon form of the first k columns. -/
structure Ech (n k : Nat) (f : F2) (p : List Nat) : Prop where
  le : p.length ≤ n
  lt : ∀ i (hi : i < p.length), p[i] < k
  inc : ∀ i k (hik : i < k) (hk : k < p.length), p[i] < p[k]
  left : ∀ i (hi : i < p.length), ∀ j, j < p[i] → f i j = 0
  piv : ∀ i (hi : i < p.length), f i p[i] ≠ 0
  below : ∀ i, p.length ≤ i → i < n → ∀ j, j < k → f i j = 0

theorem Ech.nil (n : Nat) (f : F2) : Ech n 0 f [] := ⟨by simp, by simp, by simp, by simp, by simp, by intros; omega⟩
theorem Ech.skip {n k : Nat} {f : F2} {p : List Nat} (h : Ech n k f p) (hz : ∀ i, p.length ≤ i → i < n → f i k = 0) : Ech n (k + 1) f p :=
  ⟨h.le, fun i hi => Nat.lt_succ_of_lt (h.lt i hi), h.inc, h.left, h.piv, fun i hi hn j hj => by
    by_cases e : j = k
    · subst e; exact hz i hi hn
    · exact h.below i hi hn j (by omega)⟩
theorem push_lt {p : List Nat} {k : Nat} (h : ∀ i (hi : i < p.length), p[i] < k) (i : Nat) (hi : i < (p ++ [k]).length) : (p ++ [k])[i] < k + 1 := by
  rw [List.getElem_append]; split
  · have := h i (by assumption); omega
  · simp
theorem push_inc {p : List Nat} {c : Nat} (h : ∀ i (hi : i < p.length), p[i] < c) (h2 : ∀ i k (hik : i < k) (hk : k < p.length), p[i] < p[k]) (i k : Nat) (hik : i < k) (hk : k < (p ++ [c]).length) : (p ++ [c])[i] < (p ++ [c])[k] := by
  simp at hk
  rw [List.getElem_append, List.getElem_append]
  by_cases a : k < p.length
  · simp [a, show i < p.length by omega]; exact h2 i k hik a
  · simp [a, show i < p.length by omega]; exact h i (by omega)
theorem Ech.push {n k : Nat} {f g : F2} {p : List Nat} (h : Ech n k f p) (hp : p.length < n) (h0 : ∀ i, i < p.length → ∀ j, g i j = f i j)
    (hz : ∀ i, p.length ≤ i → i < n → ∀ j, j < k → g i j = 0) (hne : g p.length k ≠ 0) (hb : ∀ i, p.length < i → i < n → g i k = 0) : Ech n (k + 1) g (p ++ [k]) := by
  refine ⟨by simp; omega, push_lt h.lt, push_inc h.lt h.inc, fun i hi j hj => ?_, fun i hi => ?_, fun i hi hn j hj => ?_⟩
  · simp at hi
    rw [List.getElem_append] at hj
    by_cases a : i < p.length
    · simp [a] at hj; rw [h0 i a]; exact h.left i a j hj
    · simp [a] at hj; exact hz i (by omega) (by omega) j hj
  · simp at hi
    rw [List.getElem_append]
    by_cases a : i < p.length
    · simp only [a, dite_true]; rw [h0 i a]; exact h.piv i a
    · obtain rfl : i = p.length := by omega
      simpa using hne
  · simp at hi
    by_cases e : j = k
    · subst e; exact hb i (by omega) hn
    · exact hz i (by omega) hn j (by omega)

/-- The first t pivots are 1, and alone in their columns. -/
structure Red (n t : Nat) (f : F2) (p : List Nat) : Prop where
  one : ∀ i (hi : i < p.length), i < t → f i p[i] = 1
  zero : ∀ k (hk : k < p.length), k < t → ∀ i, i < n → i ≠ k → f i p[k] = 0
theorem Ech.rref {n c : Nat} {f : F2} {p : List Nat} (h : Ech n c f p) (hr : Red n p.length f p) : Rref n c f p :=
  ⟨h.le, h.lt, h.inc, h.left, fun i hi => hr.one i hi hi, fun k hk => hr.zero k hk hk, h.below⟩
/-- Entries below a pivot are 0. -/
theorem Ech.under {n c : Nat} {f : F2} {p : List Nat} (h : Ech n c f p) (k : Nat) (hk : k < p.length) (i : Nat) (hi : i < n) (hki : k < i) : f i p[k] = 0 := by
  by_cases a : i < p.length
  · exact h.left i a _ (h.inc k i hki a)
  · exact h.below i (by omega) hi _ (h.lt k hk)
/-- One pivot more: its row is divided, and taken from those above. -/
theorem Red.step {n c t : Nat} {f g : F2} {p : List Nat} (h : Ech n c f p) (hr : Red n t f p) (ht : t < p.length) 
    (h1 : ∀ j, g t j = f t j / f t p[t]) (h2 : ∀ i, i < t → ∀ j, g i j = f i j - f i p[t] * g t j) (h3 : ∀ i, t < i → ∀ j, g i j = f i j) : Ech n c g p ∧ Red n (t + 1) g p := by
  have hpv := h.piv t ht
  have hz : ∀ j, j < p[t] → g t j = 0 := fun j hj => by rw [h1, h.left t ht j hj]; grind
  have hone : g t p[t] = 1 := by rw [h1]; grind
  refine ⟨⟨h.le, h.lt, h.inc, fun i hi j hj => ?_, fun i hi => ?_, fun i hi hn j hj => ?_⟩, ⟨fun i hi hit => ?_, fun k hk hkt i hi hik => ?_⟩⟩
  · rcases Nat.lt_trichotomy i t with a | a | a
    · rw [h2 i a, h.left i hi j hj, hz j (by have := h.inc i t a ht; omega)]; grind
    · subst a; exact hz j hj
    · rw [h3 i a]; exact h.left i hi j hj
  · rcases Nat.lt_trichotomy i t with a | a | a
    · rw [h2 i a, hz _ (h.inc i t a ht)]; have := h.piv i hi; grind
    · subst a; rw [hone]; grind
    · rw [h3 i a]; exact h.piv i hi
  · rw [h3 i (by omega)]; exact h.below i hi hn j hj
  · rcases Nat.lt_trichotomy i t with a | a | a
    · rw [h2 i a, hz _ (h.inc i t a ht), hr.one i hi a]; grind
    · subst a; exact hone
    · omega
  · rcases Nat.lt_trichotomy k t with b | b | b
    · have hzk : g t p[k] = 0 := hz _ (h.inc k t b ht)
      rcases Nat.lt_trichotomy i t with a | a | a
      · rw [h2 i a, hzk, hr.zero k hk b i hi hik]; grind
      · subst a; exact hzk
      · rw [h3 i a]; exact hr.zero k hk b i hi hik
    · subst b
      rcases Nat.lt_trichotomy i k with a | a | a
      · rw [h2 i a, hone]; grind
      · omega
      · rw [h3 i a]; exact h.under k hk i hi a
    · omega

/-- The reference's reduced form grows by a column without a pivot. -/
theorem Rref.skip {n k : Nat} {f : F2} {p : List Nat} (h : Rref n k f p) (hz : ∀ i, p.length ≤ i → i < n → f i k = 0) : Rref n (k + 1) f p :=
  ⟨h.le, fun i hi => Nat.lt_succ_of_lt (h.lt i hi), h.inc, h.left, h.one, h.zero, fun i hi hn j hj => by
    by_cases e : j = k
    · subst e; exact hz i hi hn
    · exact h.below i hi hn j (by omega)⟩
theorem Rref.nil (n : Nat) (f : F2) : Rref n 0 f [] := ⟨by simp, by simp, by simp, by simp, by simp, by simp, by intros; omega⟩
/-- .. and by one with a pivot: f has the pivot's row at its place. -/
theorem Rref.push {n k : Nat} {f g : F2} {p : List Nat} (h : Rref n k f p) (hp : p.length < n) (hne : f p.length k ≠ 0)
    (h1 : ∀ j, g p.length j = f p.length j * (1 / f p.length k)) (h2 : ∀ i, i < n → i ≠ p.length → ∀ j, g i j = f i j + g p.length j * - f i k) : Rref n (k + 1) g (p ++ [k]) := by
  have hz : ∀ j, j < k → g p.length j = 0 := fun j hj => by rw [h1, h.below _ (Nat.le_refl _) hp j hj]; grind
  have hone : g p.length k = 1 := by rw [h1]; grind
  have hk0 : ∀ i, i < n → i ≠ p.length → g i k = 0 := fun i hi e => by rw [h2 i hi e, hone]; grind
  have hs : ∀ i, i < n → ∀ j, j < k → g i j = f i j := fun i hi j hj => by
    by_cases e : i = p.length
    · subst e; rw [hz j hj, h.below _ (Nat.le_refl _) hp j hj]
    · rw [h2 i hi e, hz j hj]; grind
  refine ⟨by simp; omega, push_lt h.lt, push_inc h.lt h.inc, fun i hi j hj => ?_, fun i hi => ?_, fun q hq i hi hiq => ?_, fun i hi hn j hj => ?_⟩
  · simp at hi
    rw [List.getElem_append] at hj
    by_cases a : i < p.length
    · simp [a] at hj; rw [hs i (by omega) j (by have := h.lt i a; omega)]; exact h.left i a j hj
    · simp [a] at hj; obtain rfl : i = p.length := by omega
      exact hz j hj
  · simp at hi
    rw [List.getElem_append]
    by_cases a : i < p.length
    · simp only [a, dite_true]; rw [hs i (by omega) _ (h.lt i a)]; exact h.one i a
    · obtain rfl : i = p.length := by omega
      simpa using hone
  · simp at hq
    rw [List.getElem_append]
    by_cases a : q < p.length
    · simp only [a, dite_true]; rw [hs i hi _ (h.lt q a)]; exact h.zero q a i hi hiq
    · obtain rfl : q = p.length := by omega
      simpa using hk0 i hi hiq
  · simp at hi
    by_cases e : j = k
    · subst e; exact hk0 i hn (by omega)
    · rw [hs i hn j (by omega)]; exact h.below i (by omega) hn j (by omega)
end Go.Lin
