/- matrix: copied. Conditions: few rows and columns. Elements of rows that a call has made itself: loads. Conditions: none. Matrices whose elimination stays small: those of small numbers, and those that are reduced. Conditions: none. Products of rows and matrices, the transposed matrix, over lists. Conditions: none. matrix: Transpose. Conditions: few rows and columns, numbers of at most 2^36 digits. matrix: dot. Conditions: few numbers of at most 2^36 digits. matrix: Apply, Mul. Conditions: few rows and columns, numbers of few digits. -/
import Derived.Test.YtjbhcniiioepgaaNuM
import Derived.BigRegion
namespace Go.Lin
/-- The first i of a, the others of b. -/
def mix {α : Type} (a b : List α) (i : Nat) : List α := a.take i ++ b.drop i
theorem mix_len {α : Type} {a b : List α} (h : a.length = b.length) (i : Nat) : (mix a b i).length = a.length := by simp [mix]; omega
theorem mix_zero {α : Type} (a b : List α) : mix a b 0 = b := by simp [mix]
theorem mix_full {α : Type} {a b : List α} {i : Nat} (h1 : a.length ≤ i) (h2 : b.length ≤ i) : mix a b i = a := by simp [mix, List.take_of_length_le h1, List.drop_of_length_le h2]
theorem mix_getElem {α : Type} {a b : List α} (h : a.length = b.length) (i q : Nat) (hq : q < (mix a b i).length) : (mix a b i)[q] = if q < i then a[q]'(by rw [mix_len h] at hq; exact hq) else b[q]'(by rw [mix_len h] at hq; omega) := by
  have hq' := hq
  rw [mix_len h] at hq'
  have hq2 : q < (a.take i ++ b.drop i).length := hq
  show (a.take i ++ b.drop i)[q]'hq2 = _
  rw [List.getElem_append]
  by_cases a1 : q < i
  · rw [dif_pos (by simp; omega), if_pos a1, List.getElem_take]
  · rw [dif_neg (by simp; omega), if_neg a1, List.getElem_drop]
    congr 1
    simp; omega
theorem mix_set {α : Type} {a b : List α} (h : a.length = b.length) {i : Nat} (hi : i < a.length) : (mix a b i).set i a[i] = mix a b (i + 1) := by
  refine List.ext_getElem (by simp [mix_len h]) fun q h1 h2 => ?_
  rw [List.getElem_set]
  split
  · subst_vars; rw [mix_getElem h, if_pos (by omega)]
  · rw [mix_getElem h, mix_getElem h]
    by_cases a1 : q < i
    · rw [if_pos a1, if_pos (by omega)]
    · rw [if_neg a1, if_neg (by omega)]
theorem mix_at {α : Type} {a b : List α} (h : a.length = b.length) {i : Nat} (hi : i < b.length) : (mix a b i).set i b[i] = mix a b i := by
  refine List.ext_getElem (by simp) fun q h1 h2 => ?_
  rw [List.getElem_set]
  split
  · subst_vars; rw [mix_getElem h, if_neg (by omega)]
  · rfl
end Go.Lin
namespace Go.Proofs.Ytjbhcniiioepgaa
open Go.RowKit Go.Rep Go.Lim Go.Lin

set_option maxRecDepth 100000 in
set_option maxHeartbeats 800000 in
theorem copied_any (X : Nat → Bool) (w : World) (u : Value) (m : List (List Rat)) (n c : Nat) (hX : HX X w) (hu : MV (mk X w) u m) (hsh : Shp n c m) (hc : colsL m = c) (hn : n ≤ 1000) (hcc : c ≤ 1000) : Calls Try.prog 19 #[u] w (MOut X 30 40 w m) := by
  have hcol := columns_any X w u m hu
  obtain ⟨ao0, ca, rfl, hca, hsa⟩ := hu
  have hha := hsa.hd
  rw [hc] at hcol
  have hml := hid hsh.1
  have hrl := hid hsh.2
  rw [hml.out] at hca hha hcol ⊢
  obtain ⟨A, hA⟩ : ∃ A, List.replicate n (List.replicate c (0 : Rat)) = A := ⟨_, rfl⟩
  have hAl : Hid (A.length = n) := hid (by rw [← hA]; simp)
  have hAi : Hid (∀ i (hi : i < A.length), A[i] = List.replicate c (0 : Rat)) := hid fun i hi => by subst hA; simp
  have hmA : Hid (m.length = A.length) := hid (by rw [hml.out, hAl.out])
  have hz0 := zero_any X w n c hX hn hcc
  rw [hA] at hz0
  clear hA hsh hc
  go_enter Try.func19, Try.ntmps19
  go_wp2_with fail
  refine hcol.mono ?_
  rintro e w1 ⟨rfl, rfl⟩
  go_wp2_with fail
  refine hz0.mono ?_
  rintro e w2 ⟨hE2, ao, cap, hs, rfl, hM2⟩
  rw [hAl.out]
  have hlen := hid (hM2.len.trans hAl.out)
  have hcap : n ≤ cap := by have := hM2.capLen; rw [hAl.out] at this; exact this
  have hhO : Hd ao n := by have := hM2.outer.hd; rw [hlen.out] at this; exact this
  have hrl2 : Hid (∀ i (hi : i < hs.length), hs[i].2.1 = c) := hid fun i hi => by
    have h1 : i < A.length := by rw [hAl.out, ← hlen.out]; exact hi
    rw [hM2.rlen i hi h1, hAi.out i h1]; simp
  clear hcol hz0
  go_wp2_with fail
  go_loopw [15] (fun k wr => ∃ (i : Nat), k = .int .i64 i ∧ i ≤ n ∧ MO X w1.heap.size 30 40 wr ao cap hs (mix m A i) ∧ Ext w1 wr) (fun k _ => n - (intOf k).toNat)
  case atStart => exact ⟨0, rfl, Nat.zero_le _, by rw [mix_zero]; exact hM2, hE2⟩
  case round =>
    obtain ⟨i, rfl, hi, hM, hE⟩ := hrel
    by_cases hlt : i < n
    · have him : i < m.length := by rw [hml.out]; exact hlt
      have hiA : i < A.length := by rw [hAl.out]; exact hlt
      have hih : i < hs.length := by rw [hlen.out]; exact hlt
      obtain ⟨a1, c1, hX1, hc1, hcl1, hq1⟩ := hsa.row i him
      have k00 := hc1.out noY wr hE rfl
      obtain ⟨x, hx⟩ : ∃ x, m[i] = x := ⟨_, rfl⟩
      obtain ⟨z, hz⟩ : ∃ z, A[i] = z := ⟨_, rfl⟩
      rw [hx] at k00 hcl1 hq1
      have hxl : Hid (x.length = c) := hid (by rw [← hx]; exact hrl.out _ (List.getElem_mem _))
      have hzl : Hid (z.length = c) := hid (by rw [← hz, hAi.out i hiA]; simp)
      have hxz : Hid (x.length = z.length) := hid (by rw [hxl.out, hzl.out])
      rw [hxl.out] at k00 hcl1
      have hst : Hid ((mix m A i).set i z = mix m A i) := hid (by rw [← hz]; exact mix_at hmA.out hiA)
      have hfin : Hid ((mix m A i).set i x = mix m A (i + 1)) := hid (by rw [← hx]; exact mix_set hmA.out him)
      have hmi : Hid (i < (mix m A i).length) := hid (by rw [mix_len hmA.out]; exact him)
      have hh1 : Hd a1 c := by have := hq1.hd; rw [hxl.out] at this; exact this
      have hrow : RV (mk X w1) (.slice a1 c c1) x := ⟨a1, c1, by rw [hxl.out], by rw [hxl.out]; exact hcl1, hq1⟩
      obtain ⟨a, na, cr, hhd⟩ : ∃ a na cr, hs[i] = (a, na, cr) := ⟨_, _, _, rfl⟩
      have hna : na = c := by have := hrl2.out i hih; rw [hhd] at this; exact this
      subst hna
      have hhd' := hid hhd
      rw [← hst.out] at hM
      have hM' : MO X w1.heap.size 30 40 wr ao cap hs ((mix m A i).set i (mix x z 0)) := by rw [mix_zero]; exact hM
      clear hx hz hc1 hq1 hhd hM
      obtain ⟨wo, hwo⟩ : ∃ wo, wo = wr := ⟨_, rfl⟩
      subst hwo
      go_wp2_with (with_reducible refine up_ix1 slRats (by omega) (by assumption) ?_)
      go_loopw [22] (fun k wr => ∃ (j : Nat), k = .int .i64 j ∧ j ≤ na ∧ MO X w1.heap.size 30 40 wr ao cap hs ((mix m A i).set i (mix x z j)) ∧ Ext w1 wr) (fun k _ => na - (intOf k).toNat)
      case atStart => exact ⟨0, rfl, Nat.zero_le _, hM', hE⟩
      case round =>
        obtain ⟨j, rfl, hj, hM, hE⟩ := hrel
        by_cases hlj : j < na
        · have hjx : j < x.length := by rw [hxl.out]; exact hlj
          have hXr : HX X wr := hX.ext hE
          have hXz := hM.hz hXr
          have hsr : Sl QV 3 (mk (mz X ao hs) wr) a1 x := by
            obtain ⟨_, _, heq, _, h3⟩ := hM.old RV.mono hrow hE (Nat.le_refl _) (fun _ _ h => h)
            simp only [Value.slice.injEq] at heq
            obtain ⟨rfl, _, rfl⟩ := heq
            exact h3
          have hmx : Hid (i < ((mix m A i).set i (mix x z j)).length) := hid (by rw [List.length_set]; exact hmi.out)
          have hjl : Hid ((mix x z j).length = na) := hid (by rw [mix_len hxz.out, hxl.out])
          have hOr := hM.row i hih hmx.out
          rw [List.getElem_set_self] at hOr
          simp only [hhd'.out] at hOr
          have hda : Hd a na := by have := hOr.hd; rw [hjl.out] at this; exact this
          have hun : Hid (un (cut (mz X ao hs) a) a = mz X ao hs) := hid (un_cut fun k hk => by have := hM.mz_sub hih k; rw [hhd'.out] at this; exact this hk)
          have hbsep : Hid (ob a (adr ao i).block = false) := hid (by
            cases hb : ob a (adr ao i).block
            · rfl
            · have h1 := (hM.sep i hih (adr ao i).block (by rw [hhd'.out]; exact hb)).2
              obtain ⟨b0, o0, rfl⟩ := hhO (by omega)
              simp [ob, adr] at h1)
          have hbnew : Hid (ob a wr.heap.size = false) := hid (hOr.ob_ge (Nat.le_refl _))
          obtain ⟨g, o, hg⟩ : ∃ g o, adr a (j * 3) = ⟨g, o, none⟩ := ⟨_, _, rfl⟩
          have i2 : ∀ W, (Instr.indexAt 23 (.slice ao n cap) (.int .i64 (i : Int))).run Try.prog W = .ok (.pointer (some (adr ao i))) W := run_ix1 slRats ao n cap .i64 i hhO (by omega) rfl
          have i3 : ∀ W, (Instr.indexAt 30 (.slice a na cr) (.int .i64 (j : Int))).run Try.prog W = .ok (.pointer (some ⟨g, o, none⟩)) W := by rw [← hg]; exact run_indexAt_adr slRat a na cr .i64 j hda (by omega)
          have bx := Bx.new wr #[.bool false, .slice none 0 0, .slice none 0 0] 40
          obtain ⟨Z, hZ⟩ : ∃ Z, mz X ao hs = Z := ⟨_, rfl⟩
          have hZ' := hid hZ
          rw [hZ] at hXz hsr hOr hun
          have hjs : Hid ((mix x z j).set j x[j] = mix x z (j + 1)) := hid (mix_set hxz.out hjx)
          have hadd0 : Hid (x[j] + 0 = x[j]) := hid (Rat.add_zero _)
          have hhdr := (hM.hdr i hih).1
          rw [hhd'.out] at hhdr
          dsimp only at hhdr
          clear hZ k00
          go_wp2_with (first | (with_reducible refine up_ixn slRat (by omega) (by assumption) ?_) | ((with_reducible show wpList _ _ _ (⟨_, .load _ _, _, _, _, _⟩ :: _) _ _); refine st_loadElem stRat j hsr hjx rfl (by simp) QV.agg ?_; intro u5 hu5; obtain ⟨s5, a5, n5, c5, d5, k5, e5, rfl⟩ := hu5.shape) | ((with_reducible show wpList _ _ _ (⟨_, .store _ _ _, _, _, _, _⟩ :: _) _ _); refine st_storeBox stRat rfl rfl bx rfl rfl (one3 _ _ _ _ _ _ _) ?_; intro w5 r1 r2))
          have hE5 : Ext wr w5 := ExtX.box ((ExtX.refl wr).alloc _) r2 (Nat.le_refl _)
          have hEd : Ext w5 w5.drew := (ExtX.refl w5).drew
          have hM5 := hM.ext0 hE5
          have hO5 := hOr.ext0 QC.elem hE5
          have hx5 : QV (mk Z w5.drew) (.agg #[.bool s5, .slice a5 n5 c5, .slice d5 k5 e5]) x[j] := mkx QV.mono hu5 (hE5.trans hEd)
          have h00 : QV (mk Z w5.drew) (.agg #[.bool false, .slice none 0 0, .slice none 0 0]) 0 := (QC.zero _).qv (by rw [hq_zero]; decide)
          have hXd : HX Z w5.drew := hXz.ext (hE5.trans hEd)
          have hS : Hid (∀ Y W', ExtX Y w5.drew W' → Y (adr ao i).block = false → Y wr.heap.size = false → W'.cell? (adr ao i) = some (.slice a na cr) ∧ W'.cell? ⟨wr.heap.size, 0, none⟩ = some (.bool s5) ∧ W'.cell? ⟨wr.heap.size, 1, none⟩ = some (.slice a5 n5 c5) ∧ W'.cell? ⟨wr.heap.size, 2, none⟩ = some (.slice d5 k5 e5)) := hid fun Y W' h hy1 hy2 => by
            have b1 := (r1.ext0 hEd).ext h hy2
            exact ⟨h.cellY ((hE5.trans hEd).cell hhdr) hy1, b1.cell 0 rfl, b1.cell 1 rfl, b1.cell 2 rfl⟩
          obtain ⟨k20, k30, k31, k32⟩ := hS.out noY w5.drew (ExtX.refl _) rfl rfl
          obtain ⟨bw, hbw⟩ : ∃ bw, wr.heap.size = bw := ⟨_, rfl⟩
          rw [hbw] at hS k30 k31 k32 hbnew ⊢
          clear hhdr r1 bx
          go_wp2_with fail
          go_region_held3 (fun w' => w'.cell? (adr ao i) = some (.slice a na cr) ∧ w'.cell? ⟨bw, 0, none⟩ = some (.bool s5) ∧ w'.cell? ⟨bw, 1, none⟩ = some (.slice a5 n5 c5) ∧ w'.cell? ⟨bw, 2, none⟩ = some (.slice d5 k5 e5))
            (first | exact hS.out noY _ t1 rfl rfl | exact hS.out (ob a) _ ((ExtX.of t1).trans hset.2) hbsep.out hbnew.out | go_keep)
            ((go_at_call 38; (with_reducible refine (qadd Z w5.drew _ _ _ 0 hXd hx5 h00).mono ?_); rintro ee w6 ⟨t1, u6, rfl, hu6⟩; obtain ⟨s6, a6, n6, c6, d6, k6, e6, rfl⟩ := hu6.shape; rw [hadd0.out] at hu6; have hO6 := hO5.ext0 QC.elem (hEd.trans t1); obtain ⟨_, v0, v1, v2, _, ⟨g0, f0⟩, ⟨g1, f1⟩, ⟨g2, f2⟩, _⟩ := hO6.cell3 j (by rw [hjl.out]; exact hlj) hg; have hset := hO6.set3 tyRat QC.elem j (by rw [hjl.out]; exact hlj) hg (v0 := .bool s6) (v1 := .slice a6 n6 c6) (v2 := .slice d6 k6 e6) (x := x[j]) (by rw [hun.out]; exact hu6)))
          obtain ⟨q1, q2⟩ := hset
          rw [hjs.out] at q1
          have q2' : ExtX (ob hs[i].1) w6 (((w6.setCell ⟨g, o, none⟩ (.bool s6)).setCell ⟨g, o + 1, none⟩ (.slice a6 n6 c6)).setCell ⟨g, o + 2, none⟩ (.slice d6 k6 e6)) := by rw [hhd'.out]; exact q2
          have hM6 := hM5.ext0 (hEd.trans t1)
          have hM7 := hM6.upd hih (l := mix x z (j + 1)) q2' (fun hi' => by rw [List.getElem_set_self, mix_len hxz.out, mix_len hxz.out]) (by rw [hZ'.out, hhd'.out]; exact q1)
          rw [List.set_set] at hM7
          have hE7 := hM6.ext_from ((hE.trans hE5).trans (hEd.trans t1)) (Nat.le_refl _) (ExtX.row hih q2')
          clear k20 k30 k31 k32 g0 g1 g2 f0 f1 f2 i2 i3
          go_wp2_with fail
          go_roundw
          case rel => exact ⟨j + 1, by go_num, by omega, hM7, hE7⟩
          case measure => simp [intOf]; omega
        · have hjn : j = na := by omega
          subst hjn
          rw [mix_full (a := x) (b := z) (by rw [hxl.out]; exact Nat.le_refl _) (by rw [hzl.out]; exact Nat.le_refl _), hfin.out] at hM
          go_wp2_with fail
          go_roundw
          case rel => exact ⟨i + 1, by go_num, by omega, hM, hE⟩
          case measure => simp [intOf]; omega
    · have hin : i = n := by omega
      subst hin
      rw [mix_full (by rw [hml.out]; exact Nat.le_refl _) (by rw [hAl.out]; exact Nat.le_refl _)] at hM
      go_wp2_with fail
      go_ret
      exact ⟨hE, ao, cap, hs, by rw [hml.out]; rfl, hM⟩
end Go.Proofs.Ytjbhcniiioepgaa

namespace Go.Rep
open Go.RowKit Go.Lim
section
variable {P : Program} {ops : Array Oper} {Q : Exit → Act → World → Prop} {rest : List Oper} {a : Act} {w : World}
variable {α : Type} {R : Mem → Value → α → Prop} {sz : Nat} {X : Nat → Bool} {base : Nat} {e : TypeId} {ao : Option Addr} {cap : Nat} {l : List α}
variable {d : Option Tmp} {ty : TypeId} {ps : String} {af : Array Edge}
theorem st_loadOL {t : TypeId} {x : Operand} {k : Nat} (hT : StructT P t sz) (i : Nat) (h : OL R sz X base e w ao cap l) (hi : i < l.length) (hx : a.eval x = .pointer (some (adr ao k))) (hk : k = i * sz) (hag : ∀ h u y, R h u y → ∃ cs, u = .agg cs)
    (K : ∀ u, R (mk (un X ao) w) u l[i] → wpList P ops Q rest (a.put d u) w) :
    wpList P ops Q (⟨d, .load t x, ty, ps, af, none⟩ :: rest) a w := by
  refine wpList_plain rfl fun K' hK' => ?_
  subst hk
  obtain ⟨fs, ti, h1, h2, h3⟩ := hT
  obtain ⟨us, p1, p2, _, p3, p5⟩ := h.cells
  have hi' : i < us.length := by omega
  have h6 := p5 i hi' hi
  obtain ⟨cs, hcs⟩ := hag _ _ _ h6
  have hsz : cs.toList.length = sz := by have := p2 us[i] (List.getElem_mem _); rw [hcs] at this; simpa [Value.cells] using this
  have hl := run_loadCells_list (P := P) w (adr ao (i * sz)) cs.toList (fun j v hj => by
    rw [adr_add]
    have hj1 : j < sz := by rw [← hsz]; exact (List.getElem?_eq_some_iff.1 hj).1
    have hget := flat_get us i j hi' p2 hj1
    rw [hcs] at hget
    have hj2 : (cellsL (.agg cs))[j]? = some v := by simpa [cellsL, Value.cells] using hj
    rw [hj2] at hget
    exact (p3 _ _ hget).1)
  rw [hsz] at hl
  unfold Oper.wp
  simp [execOp, hx, Instr.loadAt, Instr.sureAddr, loadVar, isAgg, run_underlying h1, sizeOf, typeInfo, h2, h3, hl, Result.andThen]
  rw [hcs] at h6
  exact hK' _ _ (K _ h6)
end
/-- The struct at an element's address, now and in all worlds behind that leave the list's block. -/
theorem OL.rat {R : Mem → Value → Rat → Prop} (hR : Shaped R) {X : Nat → Bool} {base : Nat} {e : TypeId} {w : World} {ao : Option Addr} {cap : Nat} {l : List Rat} (h : OL R 3 X base e w ao cap l) (i : Nat) (hi : i < l.length) :
    ∃ g o sg a n c d k e, adr ao (i * 3) = ⟨g, o, none⟩ ∧ ob ao g = true ∧ Hid (∀ Y W', ExtX Y w W' → Y g = false → W'.cell? ⟨g, o, none⟩ = some (.bool sg) ∧ W'.cell? ⟨g, o + 1, none⟩ = some (.slice a n c) ∧ W'.cell? ⟨g, o + 2, none⟩ = some (.slice d k e)) ∧ R (mk (un X ao) w) (.agg #[.bool sg, .slice a n c, .slice d k e]) l[i] := by
  obtain ⟨b0, o0, hb0⟩ := h.hd (by omega)
  have hg : adr ao (i * 3) = ⟨b0, o0 + i * 3, none⟩ := by rw [hb0]; rfl
  obtain ⟨u, v0, v1, v2, hu, ⟨h0, _⟩, ⟨h1, _⟩, ⟨h2, _⟩, h3⟩ := h.cell3 i hi hg
  obtain ⟨sg, a, n, c, d, k, e, rfl⟩ := hR _ _ _ h3
  simp only [cellsL, Value.cells, List.cons.injEq, and_true] at hu
  obtain ⟨rfl, rfl, rfl⟩ := hu
  exact ⟨_, _, sg, a, n, c, d, k, e, hg, by rw [hb0]; simp [ob], hid fun Y W' hE hY => ⟨hE.cellY h0 hY, hE.cellY h1 hY, hE.cellY h2 hY⟩, h3⟩
end Go.Rep

namespace Go.Lin
open Go.Lim
/-- All numbers that the program's elimination meets are of few digits. -/
def Tame (m : Mat) (c : Nat) : Prop := ∃ B, 7 * B ≤ 68719476736 ∧ (∀ j, j ≤ c → HB B (eN m j).1) ∧ ∀ t, t ≤ (eN m c).2.1.length → HB B (dN (eN m c).1 (eN m c).2.1 t)
theorem pow_le (a : Nat) {i n : Nat} (ha : 0 < a) (h : i ≤ n) : a ^ i ≤ a ^ n := Nat.pow_le_pow_right ha h
theorem tame_of {n c B : Nat} {m : Mat} (hs : Shp n c m) (h : HB B m) (hB : 7 * (35 ^ n * B) ≤ 68719476736) : Tame m c := by
  have hle : ∀ j, (eN m j).2.1.length ≤ n := fun j => (eN_ok hs j).ech.le
  refine ⟨35 ^ n * B, hB, fun j _ => (h.eN hs j).mono (Nat.mul_le_mul_right _ ?_), fun t ht => (((h.eN hs c).dN (eN_ok hs c).shp (eN_ok hs c).ech t ht)).mono ?_⟩
  · exact Nat.le_trans (pow_le 5 (by omega) (hle j)) (Nat.pow_le_pow_left (by omega) n)
  · rw [← Nat.mul_assoc]
    refine Nat.mul_le_mul_right _ ?_
    rw [show (35 : Nat) = 7 * 5 from rfl, Nat.mul_pow]
    exact Nat.mul_le_mul (pow_le 7 (by omega) (Nat.le_trans ht (hle c))) (pow_le 5 (by omega) (hle c))
/-- .. in its first phase alone. -/
def TameE (m : Mat) (c : Nat) : Prop := ∃ B, 7 * B ≤ 68719476736 ∧ ∀ j, j ≤ c → HB B (eN m j).1
theorem Tame.e {m : Mat} {c : Nat} (h : Tame m c) : TameE m c := let ⟨B, h1, h2, _⟩ := h; ⟨B, h1, h2⟩
theorem tamee_of {n c B : Nat} {m : Mat} (hs : Shp n c m) (h : HB B m) (hB : 7 * (5 ^ n * B) ≤ 68719476736) : TameE m c :=
  ⟨5 ^ n * B, hB, fun j _ => (h.eN hs j).mono (Nat.mul_le_mul_right _ (pow_le 5 (by omega) (eN_ok hs j).ech.le))⟩
theorem hb_redP {n c B : Nat} {m : Mat} (h : HB B m) (hs : Shp n c m) : HB (35 ^ n * B) (redP m c).1 := by
  have hle : (eN m c).2.1.length ≤ n := (eN_ok hs c).ech.le
  refine ((h.eN hs c).dN (eN_ok hs c).shp (eN_ok hs c).ech _ (Nat.le_refl _)).mono ?_
  rw [← Nat.mul_assoc]
  refine Nat.mul_le_mul_right _ ?_
  rw [show (35 : Nat) = 7 * 5 from rfl, Nat.mul_pow]
  exact Nat.mul_le_mul (pow_le 7 (by omega) hle) (pow_le 5 (by omega) hle)

theorem rows_id {m : Mat} {f : Nat → List Rat → List Rat} (h : ∀ i (hi : i < m.length), f i m[i] = m[i]) : rows m f = m := by
  refine List.ext_getElem (by simp [rows]) fun i h1 h2 => ?_
  simp only [rows, List.getElem_mapIdx]
  exact h i h2
theorem clear_id {n c : Nat} {m : Mat} (hs : Shp n c m) {t : Nat} (ht : t < n) (col s : Nat) (h : ∀ i, t < i → i < n → ent m i col = 0) : clear m t col s = m := by
  refine rows_id fun i hi => ?_
  have hin : i < n := by rw [← hs.1]; exact hi
  split
  · rename_i a
    refine elimL_zero _ _ _ (by rw [hs.2 _ (List.getElem_mem _), hs.row ht]) ?_
    have := h i a.1 hin
    unfold ent at this
    rw [show m.getD i [] = m[i] by simp [List.getD_eq_getElem?_getD, hi]] at this
    rw [this]; grind
  · rfl
theorem above_id {n c : Nat} {m : Mat} (hs : Shp n c m) {t : Nat} (ht : t < n) (col s : Nat) (h : ∀ i, i < t → ent m i col = 0) : above m t col s = m := by
  refine rows_id fun i hi => ?_
  split
  · rename_i a
    refine elimL_zero _ _ _ (by rw [hs.2 _ (List.getElem_mem _), hs.row ht]) ?_
    have := h i a.1
    unfold ent at this
    rw [show m.getD i [] = m[i] by simp [List.getD_eq_getElem?_getD, hi]] at this
    rw [this]; grind
  · rfl
theorem divL_id {n c : Nat} {m : Mat} (hs : Shp n c m) {t : Nat} (ht : t < n) (col : Nat) (h : ent m t col = 1) : divL m t col = m := by
  unfold divL
  rw [h]
  have e : (m.getD t []).map (· / 1) = m.getD t [] := by
    rw [show (fun x : Rat => x / 1) = id from by funext x; simp only [id]; grind, List.map_id]
  have htl : t < m.length := by rw [hs.1]; exact ht
  rw [e]; simp [List.getD_eq_getElem?_getD, htl]
/-- The elimination leaves a reduced form as it is. -/
theorem eN_red {n c : Nat} {m : Mat} {p : List Nat} (hs : Shp n c m) (hr : Rref n c (ent m) p) (j : Nat) (hj : j ≤ c) : eN m j = (m, p.filter (· < j), false) := by
  induction j with
  | zero => simp [eN]
  | succ j ih =>
    have ih := ih (by omega)
    have hpre : ∀ q : List Nat, q.Pairwise (· < ·) → ∀ i (hi : i < q.length), q[i] < j ↔ i < (q.filter (· < j)).length := by
      intro q
      induction q with
      | nil => intro _ i hi; simp at hi
      | cons a q ihq =>
        intro hp i hi
        rw [List.pairwise_cons] at hp
        by_cases ha : a < j
        · rw [List.filter_cons_of_pos (by simpa using ha), List.length_cons]
          match i with
          | 0 => simp [ha]
          | i + 1 => simpa using ihq hp.2 i (by simpa using hi)
        · have hnil : q.filter (· < j) = [] := by
            rw [List.filter_eq_nil_iff]; intro x hx; have := hp.1 x hx; simp; omega
          rw [List.filter_cons_of_neg (by simpa using ha), hnil]
          match i with
          | 0 => simp [ha]
          | i + 1 =>
            have hi' : i < q.length := by simpa using hi
            have := hp.1 q[i] (List.getElem_mem _)
            simp; omega
    have hpp := hpre p hr.pw
    show eStep (eN m j) j = _
    rw [ih]
    have hle := hr.le
    have hfl : (p.filter (· < j)).length ≤ p.length := List.length_filter_le _ _
    have hsucc : ∀ q : List Nat, q.Pairwise (· < ·) → q.filter (· < j + 1) = q.filter (· < j) ++ (if j ∈ q then [j] else []) := by
      intro q
      induction q with
      | nil => intro _; simp
      | cons a q ihq =>
        intro hp
        rw [List.pairwise_cons] at hp
        rcases Nat.lt_trichotomy a j with h | h | h
        · rw [List.filter_cons_of_pos (by simp; omega), List.filter_cons_of_pos (by simpa using h), ihq hp.2]
          simp [show ¬ j = a by omega]
        · subst h
          have hnil : q.filter (· < a) = [] := by
            rw [List.filter_eq_nil_iff]; intro x hx; have := hp.1 x hx; simp; omega
          have hnil2 : q.filter (· < a + 1) = [] := by
            rw [List.filter_eq_nil_iff]; intro x hx; have := hp.1 x hx; simp; omega
          rw [List.filter_cons_of_pos (by simp), List.filter_cons_of_neg (by simp), hnil, hnil2]
          simp
        · have hnil : q.filter (· < j) = [] := by
            rw [List.filter_eq_nil_iff]; intro x hx; have := hp.1 x hx; simp; omega
          have hnil2 : q.filter (· < j + 1) = [] := by
            rw [List.filter_eq_nil_iff]; intro x hx; have := hp.1 x hx; simp; omega
          have hnm : ¬ j ∈ q := fun hx => by have := hp.1 j hx; omega
          rw [List.filter_cons_of_neg (by simp; omega), List.filter_cons_of_neg (by simp; omega), hnil, hnil2]
          simp [hnm, show ¬ j = a by omega]
    rw [hsucc p hr.pw]
    unfold eStep
    dsimp only
    split
    · rename_i e
      have hnm : ¬ j ∈ p := fun hx => by
        obtain ⟨i, hi, rfl⟩ := List.getElem_of_mem hx
        have h1 := (hpp i hi).2 (by rw [hs.1] at e; omega)
        omega
      simp [hnm]
    · rename_i e
      rw [hs.1] at e
      have htn : (p.filter (· < j)).length < n := by omega
      by_cases hjp : j ∈ p
      · obtain ⟨i, hi, hij⟩ := List.getElem_of_mem hjp
        have h1 : ¬ i < (p.filter (· < j)).length := fun h => by have := (hpp i hi).2 h; omega
        have h2 : (p.filter (· < j)).length = i := by
          refine Classical.byContradiction fun hne => ?_
          have h3 : (p.filter (· < j)).length < i := by omega
          have h4 := hr.inc _ i h3 hi
          have h5 := (hpp (p.filter (· < j)).length (by omega)).1 (by rw [hij] at h4; exact h4)
          omega
        rw [h2] at htn ⊢
        have hone := hr.one i hi
        rw [hij] at hone
        have hnz : nzAt m i j = some 0 := by
          unfold nzAt
          have hlt : i < m.length := by rw [hs.1]; exact htn
          rw [List.drop_eq_getElem_cons hlt, List.findIdx?_cons]
          have : decide (m[i].getD j 0 ≠ 0) = true := by
            unfold ent at hone
            rw [show m.getD i [] = m[i] by simp [List.getD_eq_getElem?_getD, hlt]] at hone
            rw [hone]; decide
          rw [this]; rfl
        rw [hnz]
        dsimp only
        rw [Nat.add_zero, swapL_self m i (by rw [hs.1]; exact htn), clear_id hs htn j _ (fun q hq hqn => by have := hr.zero i hi q hqn (by omega); rw [hij] at this; exact this)]
        simp [hjp]
      · have hz : nzAt m (p.filter (· < j)).length j = none := by
          unfold nzAt
          rw [List.findIdx?_eq_none_iff]
          intro r hrm
          obtain ⟨q, hq, rfl⟩ := List.getElem_of_mem hrm
          rw [List.length_drop] at hq
          rw [List.getElem_drop]
          have h0 : ent m ((p.filter (· < j)).length + q) j = 0 := by
            by_cases hqp : (p.filter (· < j)).length + q < p.length
            · refine hr.left _ hqp j ?_
              have h1 : ¬ p[(p.filter (· < j)).length + q] < j := fun h => by have := (hpp _ hqp).1 h; omega
              have h2 : p[(p.filter (· < j)).length + q] ≠ j := fun h => hjp (h ▸ List.getElem_mem _)
              omega
            · exact hr.below _ (by omega) (by rw [← hs.1]; omega) j (by omega)
          have hl : (p.filter (· < j)).length + q < m.length := by omega
          unfold ent at h0
          rw [show m.getD ((p.filter (· < j)).length + q) [] = m[(p.filter (· < j)).length + q] by simp [List.getD_eq_getElem?_getD, hl]] at h0
          rw [h0]; decide
        rw [hz]
        simp [hjp]
theorem filter_all {p : List Nat} {c : Nat} (h : ∀ i (hi : i < p.length), p[i] < c) : p.filter (· < c) = p := by
  rw [List.filter_eq_self]; intro x hx
  obtain ⟨i, hi, rfl⟩ := List.getElem_of_mem hx
  simpa using h i hi
theorem dN_red {n c : Nat} {m : Mat} {p : List Nat} (hs : Shp n c m) (hr : Rref n c (ent m) p) (t : Nat) (ht : t ≤ p.length) : dN m p t = m := by
  induction t with
  | zero => rfl
  | succ t ih =>
    have htn : t < n := Nat.lt_of_lt_of_le (show t < p.length by omega) hr.le
    have hp : p.getD t 0 = p[t]'(by omega) := by simp [List.getD_eq_getElem?_getD, show t < p.length by omega]
    show dStep (dN m p t) t (p.getD t 0) = m
    rw [ih (by omega), hp]
    unfold dStep
    rw [divL_id hs htn _ (hr.one t (by omega)), above_id hs htn _ _ (fun i hi => hr.zero t (by omega) i (by omega) (by omega))]
theorem tame_red {n c B : Nat} {m : Mat} {p : List Nat} (hs : Shp n c m) (hr : Rref n c (ent m) p) (h : HB B m) (hB : 7 * B ≤ 68719476736) : Tame m c := by
  refine ⟨B, hB, fun j hj => by rw [eN_red hs hr j hj]; exact h, fun t ht => ?_⟩
  rw [eN_red hs hr c (Nat.le_refl _), filter_all hr.lt] at ht ⊢
  rw [dN_red hs hr t ht]; exact h
end Go.Lin

namespace Go.Lin
open Go.Lim
/-- The sum of the first k products. -/
def dotN (l m : List Rat) : Nat → Rat
  | 0 => 0
  | k + 1 => dotN l m k + l.getD k 0 * m.getD k 0
def dotL (l m : List Rat) : Rat := dotN l m l.length
theorem dotN_sm (l m : List Rat) (k : Nat) : dotN l m k = sm k fun q => l.getD q 0 * m.getD q 0 := by
  induction k with
  | zero => rfl
  | succ k ih => unfold dotN sm; rw [ih]
theorem dotN_comm (l m : List Rat) (k : Nat) : dotN l m k = dotN m l k := by
  rw [dotN_sm, dotN_sm]; exact sm_congr fun q _ => by grind
theorem dotN_hq {l m : List Rat} {B : Nat} (hl : Go.Rep.BR B l) (hm : Go.Rep.BR B m) (hB : 1 ≤ B) (k : Nat) : hq (dotN l m k) ≤ 1 + k * (2 * B + 1) := by
  have hg : ∀ (x : List Rat), Go.Rep.BR B x → ∀ q, hq (x.getD q 0) ≤ B := fun x hx q => by
    by_cases h : q < x.length
    · rw [List.getD_eq_getElem?_getD, List.getElem?_eq_getElem h]; exact hx _ (List.getElem_mem h)
    · rw [List.getD_eq_getElem?_getD, List.getElem?_eq_none (by omega)]
      show hq 0 ≤ B
      rw [hq_zero]; exact hB
  induction k with
  | zero => show hq 0 ≤ _; rw [hq_zero]; omega
  | succ k ih =>
    have h1 := hq_mul (l.getD k 0) (m.getD k 0)
    have h2 := hq_add (dotN l m k) (l.getD k 0 * m.getD k 0)
    have h3 := hg l hl k
    have h4 := hg m hm k
    show hq (dotN l m k + l.getD k 0 * m.getD k 0) ≤ _
    rw [Nat.add_mul, Nat.one_mul]
    omega
/-- The transposed matrix. -/
def trL (m : Mat) (n c : Nat) : Mat := (List.range c).map fun q => (List.range n).map fun p => ent m p q
/-- .. when i columns of it are written, and j numbers of the next. -/
def trN (m : Mat) (n c i j : Nat) : Mat := (List.range c).map fun q => (List.range n).map fun p => if p < i ∨ (p = i ∧ q < j) then ent m p q else 0
theorem trN_zero (m : Mat) (n c : Nat) : trN m n c 0 0 = List.replicate c (List.replicate n 0) := by
  refine List.ext_getElem (by simp [trN]) fun q h1 h2 => List.ext_getElem (by simp [trN]) fun p h3 h4 => by simp [trN]
theorem trN_next (m : Mat) (n c i : Nat) : trN m n c i c = trN m n c (i + 1) 0 := by
  refine List.ext_getElem (by simp [trN]) fun q h1 h2 => List.ext_getElem (by simp [trN]) fun p h3 h4 => ?_
  simp [trN] at h1
  simp only [trN, List.getElem_map, List.getElem_range]
  by_cases a : p < i
  · rw [if_pos (.inl a), if_pos (.inl (by omega))]
  · by_cases b : p = i
    · rw [if_pos (.inr ⟨b, by omega⟩), if_pos (.inl (by omega))]
    · rw [if_neg (by omega), if_neg (by omega)]
theorem trN_full (m : Mat) (n c : Nat) : trN m n c n 0 = trL m n c := by
  refine List.ext_getElem (by simp [trN, trL]) fun q h1 h2 => List.ext_getElem (by simp [trN, trL]) fun p h3 h4 => ?_
  simp [trN] at h3
  simp only [trN, trL, List.getElem_map, List.getElem_range]
  rw [if_pos (.inl h3)]
theorem trN_len (m : Mat) (n c i j : Nat) : (trN m n c i j).length = c := by simp [trN]
theorem trN_rlen (m : Mat) (n c i j q : Nat) (h : q < (trN m n c i j).length) : (trN m n c i j)[q].length = n := by simp [trN]
theorem trN_set {m : Mat} {n c i j : Nat} (h : j < (trN m n c i j).length) : (trN m n c i j).set j ((trN m n c i j)[j].set i (ent m i j)) = trN m n c i (j + 1) := by
  refine List.ext_getElem (by simp [trN]) fun q h1 h2 => List.ext_getElem ?_ fun p h3 h4 => ?_
  · rw [List.getElem_set]; split <;> simp [trN]
  · simp only [List.getElem_set]
    by_cases a : j = q
    · subst a
      simp only [if_true, List.getElem_set]
      by_cases b : i = p
      · subst b; simp [trN]
      · rw [if_neg b]
        simp only [trN, List.getElem_map, List.getElem_range]
        by_cases d : p < i
        · rw [if_pos (.inl d), if_pos (.inl d)]
        · rw [if_neg (by omega), if_neg (by omega)]
    · simp only [a, if_false]
      simp only [trN, List.getElem_map, List.getElem_range]
      by_cases d : p < i
      · rw [if_pos (.inl d), if_pos (.inl d)]
      · by_cases b : p = i ∧ q < j
        · rw [if_pos (.inr b), if_pos (.inr (by omega))]
        · rw [if_neg (by omega), if_neg (by omega)]
theorem trL_shp (m : Mat) (n c : Nat) : Shp c n (trL m n c) := ⟨by simp [trL], fun r hr => by
  obtain ⟨q, _, rfl⟩ := List.mem_map.1 hr; simp⟩
theorem ent_trL (m : Mat) (n c : Nat) : Eqm c n (ent (trL m n c)) fun i j => ent m j i := fun i hi j hj => by
  simp [ent, trL, List.getD_eq_getElem?_getD, hi, hj]
theorem trL_hb {m : Mat} {n c B : Nat} (h : HB B m) : HB B (trL m n c) := fun i j => by
  by_cases hi : i < c
  · by_cases hj : j < n
    · rw [ent_trL m n c i hi j hj]; exact h j i
    · rw [ent_out (trL_shp m n c) (.inr (by omega)), hq_zero]; exact h.pos
  · rw [ent_out (trL_shp m n c) (.inl (by omega)), hq_zero]; exact h.pos
/-- A matrix times a column; a product of two. -/
def appL (m : Mat) (v : List Rat) : List Rat := m.map fun r => dotL r v
def mulL (a b : Mat) (n c : Nat) : Mat := a.map fun r => appL (trL b n c) r
theorem appL_len (m : Mat) (v : List Rat) : (appL m v).length = m.length := by simp [appL]
theorem mulL_shp {a b : Mat} {k n c : Nat} (ha : a.length = k) : Shp k c (mulL a b n c) := ⟨by simp [mulL, ha], fun r hr => by
  obtain ⟨x, _, rfl⟩ := List.mem_map.1 hr; simp [appL, trL]⟩
theorem ent_mulL {a b : Mat} {k n c : Nat} (ha : Shp k n a) : Eqm k c (ent (mulL a b n c)) (mul n (ent a) (ent b)) := fun i hi j hj => by
  have hil : i < a.length := by rw [ha.1]; exact hi
  have hrl : (a[i]).length = n := ha.2 _ (List.getElem_mem _)
  have e1 : ent (mulL a b n c) i j = dotL ((trL b n c).getD j []) (a[i]) := by
    unfold ent mulL
    rw [List.getD_eq_getElem?_getD (l := List.map _ _), List.getElem?_map, List.getElem?_eq_getElem hil]
    have hj2 : j < (trL b n c).length := by simp [trL, hj]
    simp [appL, List.getD_eq_getElem?_getD, hj2]
  rw [e1]
  unfold dotL
  rw [(trL_shp b n c).row hj, dotN_sm]
  unfold mul
  refine sm_congr fun q hq => ?_
  have e2 := ent_trL b n c j hj q hq
  unfold ent at e2 ⊢
  rw [e2, show a.getD i [] = a[i] by simp [List.getD_eq_getElem?_getD, hil]]
  grind
theorem appL_sm {m : Mat} {v : List Rat} {n c : Nat} (hs : Shp n c m) (i : Nat) (hi : i < n) : (appL m v).getD i 0 = sm c fun j => ent m i j * v.getD j 0 := by
  have hil : i < m.length := by rw [hs.1]; exact hi
  have hrl : (m[i]).length = c := hs.2 _ (List.getElem_mem _)
  have e : (appL m v).getD i 0 = dotL m[i] v := by simp [appL, List.getD_eq_getElem?_getD, hil]
  rw [e]; unfold dotL
  rw [hrl, dotN_sm]
  unfold ent
  rw [show m.getD i [] = m[i] by simp [List.getD_eq_getElem?_getD, hil]]
end Go.Lin

namespace Go.Proofs.Ytjbhcniiioepgaa
open Go.RowKit Go.Rep Go.Lim Go.Lin

/-- A matrix and no error. -/
def M2Out (X : Nat → Bool) (w : World) (m : List (List Rat)) (e : Ending) (w' : World) : Prop := Ext w w' ∧ ∃ u, e = .returned (.tuple #[u, .int .i64 0]) ∧ MC (mk X w') u m

end Go.Proofs.Ytjbhcniiioepgaa

namespace Go.Proofs.Ytjbhcniiioepgaa
open Go.RowKit Go.Rep Go.Lim Go.Lin

set_option maxRecDepth 100000 in
set_option maxHeartbeats 1600000 in
theorem dot_any (X : Nat → Bool) (w : World) (u v : Value) (l m : List Rat) (hX : HX X w) (hu : RV (mk X w) u l) (hv : RV (mk X w) v m) (hn : l.length ≤ 1000000) (hml : m.length = l.length) (hb1 : ∀ k, k ≤ l.length → hq (dotN l m k) ≤ 68719476736) (hb2 : ∀ k, k < l.length → hq (l.getD k 0 * m.getD k 0) ≤ 68719476736) :
    Calls Try.prog 20 #[u, v] w (ROut X w QC (dotL l m)) := by
  obtain ⟨ao, ca, rfl, hca, hsa⟩ := hu
  obtain ⟨bo, cb, rfl, hcb, hsb⟩ := hv
  have hha := hsa.hd
  have hhb := hsb.hd
  obtain ⟨W, hW, hE, b0, b1, hz⟩ := boxes2 w #[.bool false, .slice none 0 0, .slice none 0 0] #[.bool false, .slice none 0 0, .slice none 0 0] 40 40
  have hXW : HX (hidB X w.heap.size 2) W := hX.boxes hz
  have h0 : QC (mk (hidB X w.heap.size 2) W) (.agg #[.bool false, .slice none 0 0, .slice none 0 0]) (dotN l m 0) := QC.zero _
  obtain ⟨n, hln⟩ : ∃ n, l.length = n := ⟨_, rfl⟩
  rw [hln] at hn hml hb1 hb2 hca hha ⊢
  rw [hml] at hcb hhb ⊢
  have hln' := hid hln
  have hml' := hid hml
  have hb1' := hid hb1
  have hb2' := hid hb2
  have hdot : Hid (dotN l m n = dotL l m) := hid (by unfold dotL; rw [hln])
  clear hln hml hb1 hb2
  go_enter Try.func20, Try.ntmps20
  go_wp2_with fail
  obtain ⟨b, hb⟩ : ∃ b, w.heap.size = b := ⟨_, rfl⟩
  have hle : Hid (∀ wr, Ext w wr → Le (mk X w) (mk (hidB X b 2) wr)) := hid fun wr h => by rw [← hb]; exact le_boxes h
  have hbw : w.heap.size ≤ b := by omega
  rw [hb] at b0 b1 hXW h0 ⊢
  clear hW
  go_loopw [10] (fun k wr => ∃ (i : Nat) (s : Bool) (a : Option Addr) (n' c' : Nat) (d : Option Addr) (kk e : Nat), k = .int .i64 i ∧ i ≤ n ∧ Bx wr b #[.bool false, .slice none 0 0, .slice none 0 0] 40 ∧ Bx wr (b + 1) #[.bool s, .slice a n' c', .slice d kk e] 40 ∧ QC (mk (hidB X b 2) wr) (.agg #[.bool s, .slice a n' c', .slice d kk e]) (dotN l m i) ∧ HX (hidB X b 2) wr ∧ Ext w wr) (fun k _ => n - (intOf k).toNat)
  case atStart => exact ⟨0, _, _, _, _, _, _, _, rfl, Nat.zero_le _, b0, b1, h0, hXW, hE⟩
  case round =>
    obtain ⟨i, s, a, n', c', d, kk, e, rfl, hi, b0, b1, hq, hXr, hEr⟩ := hrel
    by_cases hlt : i < n
    · have hil : i < l.length := by rw [hln'.out]; exact hlt
      have him : i < m.length := by rw [hml'.out]; exact hlt
      have hsr := hsa.mono QV.mono (hle.out wr hEr)
      have hsr2 := hsb.mono QV.mono (hle.out wr hEr)
      obtain ⟨g2, o2, s2, p2, n2, q2, d2, k2, e2, hg2, hX2, hc2, hq2⟩ := hsr2.rat QV.shaped i him
      have gl : Hid (l.getD i 0 = l[i]) := hid (by simp [List.getD_eq_getElem?_getD, hil])
      have gm : Hid (m.getD i 0 = m[i]) := hid (by simp [List.getD_eq_getElem?_getD, him])
      have hst : Hid (dotN l m i + l[i] * m[i] = dotN l m (i + 1)) := hid (by rw [← gl.out, ← gm.out]; rfl)
      have hbo := hid (hb1'.out i hi)
      have hbp := hid (hb2'.out i hlt)
      rw [gl.out, gm.out] at hbp
      obtain ⟨x, hx⟩ : ∃ x, l[i] = x := ⟨_, rfl⟩
      obtain ⟨y, hy⟩ : ∃ y, m[i] = y := ⟨_, rfl⟩
      rw [hx, hy] at hst hbp
      rw [hy] at hq2
      have hx' := hid hx
      have i2 : ∀ W, (Instr.indexAt 30 (.slice bo n cb) (.int .i64 (i : Int))).run Try.prog W = .ok (.pointer (some ⟨g2, o2, none⟩)) W := by rw [← hg2]; exact run_indexAt_adr slRat bo n cb .i64 i hhb (by omega)
      have bx := Bx.new wr #[.bool false, .slice none 0 0, .slice none 0 0] 40
      obtain ⟨D, hD⟩ : ∃ D, dotN l m i = D := ⟨_, rfl⟩
      obtain ⟨D2, hD2⟩ : ∃ D2, dotN l m (i + 1) = D2 := ⟨_, rfl⟩
      rw [hD] at hq hst hbo
      rw [hD2] at hst
      have hD2' := hid hD2
      clear hx hy hg2 hD hD2
      go_wp2_with (first | (with_reducible refine up_ixn slRat (by omega) (by assumption) ?_) | ((with_reducible show wpList _ _ _ (⟨_, .load 40 _, _, _, _, _⟩ :: _) _ _); refine st_loadElem stRat i hsr hil rfl (by simp) QV.agg ?_; intro u5 hu5; rw [hx'.out] at hu5; obtain ⟨s5, a5, n5, c5, d5, k5, e5, rfl⟩ := hu5.shape) | ((with_reducible show wpList _ _ _ (⟨_, .store _ _ _, _, _, _, _⟩ :: _) _ _); refine st_storeBox stRat rfl rfl bx rfl rfl (one3 _ _ _ _ _ _ _) ?_; intro w5 r1 r2))
      have hE5 : Ext wr w5 := ExtX.box ((ExtX.refl wr).alloc _) r2 (Nat.le_refl _)
      have hEd : Ext w5 w5.drew := (ExtX.refl w5).drew
      have hE5d := hE5.trans hEd
      have b05 := b0.ext0 hE5d
      have b15 := b1.ext0 hE5d
      have r5 := r1.ext0 hEd
      obtain ⟨bw, hbw⟩ : ∃ bw, wr.heap.size = bw := ⟨_, rfl⟩
      rw [hbw] at r5
      have k00 := b15.cell 0 rfl
      have k01 := b15.cell 1 rfl
      have k02 := b15.cell 2 rfl
      have k10 := r5.cell 0 rfl
      have k11 := r5.cell 1 rfl
      have k12 := r5.cell 2 rfl
      obtain ⟨k20, k21, k22⟩ := hc2.out noY w5.drew hE5d rfl
      have hXd := hXr.ext hE5d
      have hx5 : QV (mk (hidB X b 2) w5.drew) (.agg #[.bool s5, .slice a5 n5 c5, .slice d5 k5 e5]) x := mkx QV.mono hu5 hE5d
      have hy5 : QV (mk (hidB X b 2) w5.drew) (.agg #[.bool s2, .slice p2 n2 q2, .slice d2 k2 e2]) y := mkx QV.mono hq2 hE5d
      have hq5 : QV (mk (hidB X b 2) w5.drew) (.agg #[.bool s, .slice a n' c', .slice d kk e]) D := (mkx QC.mono hq hE5d).qv hbo.out
      clear bx r1 hc2
      rw [hbw]
      go_wp2_with fail
      go_region_with (first | (go_at_call 39; (with_reducible refine (qmul (hidB X b 2) w5.drew _ _ _ _ hXd hx5 hy5).mono ?_); rintro ee w6 ⟨t1, u6, rfl, hu6⟩; obtain ⟨s6, a6, n6, c6, d6, k6, e6, rfl⟩ := hu6.shape; have hX6 := hXd.ext t1; have hq6 := mkx QV.mono hq5 t1; have hm6 := hu6.qv hbp.out; have b16 := b15.ext0 t1; have m0 := b16.cell 0 rfl; have m1 := b16.cell 1 rfl; have m2 := b16.cell 2 rfl) | (go_at_call 38; (with_reducible refine (qadd (hidB X b 2) w6 _ _ _ _ hX6 hq6 hm6).mono ?_); rintro ee w7 ⟨t7, u7, rfl, hu7⟩; obtain ⟨s7, a7, n7, c7, d7, k7, e7, rfl⟩ := hu7.shape; rw [hst.out] at hu7; have b17 := b16.ext0 t7; have g0 := b17.cell 0 rfl; have g1 := b17.cell 1 rfl; have g2' := b17.cell 2 rfl; have f0 := b17.frozen 0; have f1 := b17.frozen 1; have f2 := b17.frozen 2))
      all_goals
        obtain ⟨z1, z2⟩ := b17.set3 (.bool s7) (.slice a7 n7 c7) (.slice d7 k7 e7)
        have h8 := QC.mono _ _ _ _ (le_store (lo := b) (nb := 2) z2 (by omega) (by omega)) hu7
        have b08 := ((b05.ext0 t1).ext0 t7).ext z2 (ob_other (by omega))
        have hE8 : Ext w _ := ExtX.box (hEr.trans (hE5d.trans (t1.trans t7))) z2 (by omega)
        have hX8 := (hX6.ext t7).ext z2
        rw [← hD2'.out] at h8
        clear k00 k01 k02 k10 k11 k12 k20 k21 k22 m0 m1 m2 g0 g1 g2' f0 f1 f2 i2
        go_wp2_with fail
        go_roundw
        case rel => exact ⟨i + 1, _, _, _, _, _, _, _, by go_num, by omega, b08, z1, h8, hX8, hE8⟩
        case measure => simp [intOf]; omega
    · have hin : i = n := by omega
      subst hin
      rw [hdot.out] at hq
      have k00 := b1.cell 0 rfl
      have k01 := b1.cell 1 rfl
      have k02 := b1.cell 2 rfl
      go_wp2_with ((with_reducible show wpList _ _ _ (⟨_, .store _ _ _, _, _, _, _⟩ :: _) _ _); refine st_storeBox stRat rfl rfl b0 rfl rfl (one3 _ _ _ _ _ _ _) ?_; intro w7 r1 r2)
      have h7 := QC.mono _ _ _ _ le_unbox (QC.mono _ _ _ _ (le_store r2 (by omega) (by omega)) hq)
      exact bodyPost_ret (results_box rfl rfl stRat r1 rfl) rfl ⟨ExtX.box hEr r2 (by omega), _, rfl, h7⟩
end Go.Proofs.Ytjbhcniiioepgaa

namespace Go.Lin
open Go.Lim
theorem shpc {n c : Nat} {m : Mat} (h : Shp n c m) (hn : 1 ≤ n) : colsL m = c := by
  rw [colsL_pos (by rw [h.1]; exact hn)]; exact h.2 _ (List.getElem_mem _)
theorem shpf {n c : Nat} {m : Mat} (h : Shp n c m) (hn : n ≤ 96) (hc : 1 ≤ c) (hc2 : c ≤ 96) : formedB m = true := by
  refine formedB_true.2 ⟨by rw [h.1]; exact hn, fun i hi => ?_⟩
  have h1 := h.2 _ (List.getElem_mem hi)
  refine ⟨by omega, by omega, ?_⟩
  rw [h1, shpc h (by have := h.1; omega)]
theorem bm_hb {B : Nat} {m : Mat} (h : Go.Rep.BM B m) (hB : 1 ≤ B) : HB B m := fun i j => by
  unfold ent
  by_cases hi : i < m.length
  · have e : m.getD i [] = m[i] := by simp [List.getD_eq_getElem?_getD, hi]
    rw [e]
    by_cases hj : j < (m[i]).length
    · have := h m[i] (List.getElem_mem _) (m[i])[j] (List.getElem_mem _)
      simpa [List.getD_eq_getElem?_getD, hj] using this
    · rw [List.getD_eq_getElem?_getD, List.getElem?_eq_none (by omega)]
      show hq 0 ≤ B
      rw [hq_zero]; exact hB
  · rw [List.getD_eq_getElem?_getD (l := m), List.getElem?_eq_none (by omega)]
    show hq 0 ≤ B
    rw [hq_zero]; exact hB
theorem hb_bm {B : Nat} {m : Mat} (h : HB B m) : Go.Rep.BM B m := fun r hr q hq => by
  obtain ⟨i, hi, rfl⟩ := List.getElem_of_mem hr
  obtain ⟨j, hj, rfl⟩ := List.getElem_of_mem hq
  have := h i j
  simpa [ent, List.getD_eq_getElem?_getD, hi, hj] using this
theorem appL_getElem {m : Mat} {v : List Rat} {i : Nat} (hi : i < m.length) (h : i < (appL m v).length) : (appL m v)[i] = dotL m[i] v := by simp [appL]
theorem mulL_getElem {a b : Mat} {n c i : Nat} (hi : i < a.length) (h : i < (mulL a b n c).length) : (mulL a b n c)[i] = appL (trL b n c) a[i] := by simp [mulL]
theorem mulL_len (a b : Mat) (n c : Nat) : (mulL a b n c).length = a.length := by simp [mulL]
theorem br_getD {B : Nat} {x : List Rat} (hx : Go.Rep.BR B x) (hB : 1 ≤ B) (q : Nat) : hq (x.getD q 0) ≤ B := by
  by_cases h : q < x.length
  · rw [List.getD_eq_getElem?_getD, List.getElem?_eq_getElem h]; exact hx _ (List.getElem_mem h)
  · rw [List.getD_eq_getElem?_getD, List.getElem?_eq_none (by omega)]
    show hq 0 ≤ B
    rw [hq_zero]; exact hB
/-- Bounds that a dot product wants. -/
theorem dot_bounds {B : Nat} {l m : List Rat} (hl : Go.Rep.BR B l) (hm : Go.Rep.BR B m) (hB : 1 ≤ B) (hn : l.length ≤ 96) (hBB : 200 * B ≤ 68000000000) : (∀ k, k ≤ l.length → hq (dotN l m k) ≤ 68719476736) ∧ ∀ k, k < l.length → hq (l.getD k 0 * m.getD k 0) ≤ 68719476736 := by
  refine ⟨fun k hk => ?_, fun k hk => ?_⟩
  · have h1 := dotN_hq hl hm hB k
    have h2 : k * (2 * B + 1) ≤ 96 * (2 * B + 1) := Nat.mul_le_mul_right _ (by omega)
    omega
  · have h1 := hq_mul (l.getD k 0) (m.getD k 0)
    have h2 := br_getD hl hB k
    have h3 := br_getD hm hB k
    omega
end Go.Lin
namespace Go.Proofs.Ytjbhcniiioepgaa
open Go.RowKit Go.Rep Go.Lim Go.Lin

/-- A row and no error. -/
def V2Out (X : Nat → Bool) (w : World) (l : List Rat) (e : Ending) (w' : World) : Prop := Ext w w' ∧ ∃ u, e = .returned (.tuple #[u, .int .i64 0]) ∧ RC (mk X w') u l

set_option maxRecDepth 100000 in
theorem apply_ok (X : Nat → Bool) (w : World) (u v : Value) (m : List (List Rat)) (x : List Rat) (B : Nat) (hX : HX X w) (hu : MV (mk X w) u m) (hv : RV (mk X w) v x) (hf : formedB m = true) (hc : x.length = colsL m) (hB : BM B m) (hB2 : BR B x) (hB1 : 1 ≤ B) (hBB : 200 * B ≤ 68000000000) : Calls Try.prog 7 #[u, v] w (V2Out X w (appL m x)) := by
  obtain ⟨hsh, h96, hc96, _, _⟩ := formedB_shp hf
  have hfo := formed_any X w u m hu (by omega)
  rw [hf] at hfo
  have hcol := columns_any X w u m hu
  obtain ⟨ua, uca, rfl, huca, hua⟩ := hu
  obtain ⟨va, vca, rfl, hvca, hva⟩ := hv
  have hhu := hua.hd
  obtain ⟨c, hce⟩ : ∃ c, colsL m = c := ⟨_, rfl⟩
  rw [hce] at hcol hc hc96 hsh
  have hne : ((x.length : Int) != (c : Int)) = false := bneF (by omega)
  have hsh' := hid hsh
  have hcc := hid hc
  have hB' := hid hB
  have hB2' := hid hB2
  obtain ⟨n, hn⟩ : ∃ n, m.length = n := ⟨_, rfl⟩
  rw [hn] at hfo hcol huca hhu h96 ⊢
  have hnn := hid hn
  have hal : Hid ((appL m x).length = n) := hid (by rw [appL_len]; exact hn)
  clear hf hsh hn hc hce hB hB2
  go_enter Try.func7, Try.ntmps7
  go_wp2_with fail
  refine hfo.mono ?_
  rintro e w1 ⟨rfl, rfl⟩
  go_wp2_with fail
  refine hcol.mono ?_
  rintro e w2 ⟨rfl, rfl⟩
  go_wp2_with fail
  go_loopw [6, 21] (fun o k wr => ∃ (i : Nat) (oo : Option Addr) (co : Nat), k = .int .i64 i ∧ o = .slice oo i co ∧ i ≤ n ∧ OL QC 3 X w2.heap.size 40 wr oo co ((appL m x).take i) ∧ Ext w2 wr) (fun _ k _ => n - (intOf k).toNat)
  case atStart => exact ⟨0, none, 0, rfl, rfl, Nat.zero_le _, OL.nil _ _ _ _ _ _, ExtX.refl _⟩
  case round =>
    obtain ⟨i, oo, co, rfl, rfl, hi, hO, hE⟩ := hrel
    have hXr : HX X wr := hX.ext hE
    have hXu : HX (un X oo) wr := hO.unX hXr
    have hbase := hE.size
    by_cases hlt : i < n
    · have him : i < m.length := by rw [hnn.out]; exact hlt
      have hiA : i < (appL m x).length := by rw [hal.out]; exact hlt
      have hsr : Sl RV 1 (mk (un X oo) wr) ua m := hua.old RV.mono hE (fun j hj => hO.ob_lt hj)
      have hvr : RV (mk (un X oo) wr) (.slice va x.length vca) x := old_un RV.mono ⟨va, vca, rfl, hvca, hva⟩ hE (fun j hj => hO.ob_lt hj)
      have htk := hid (take_snoc (appL m x) i hiA)
      have hln := hid (len_take (l := appL m x) (i := i) (by omega))
      obtain ⟨a1, c1, hX1, hc1, hcl1, hq1⟩ := hsr.row i him
      have k00 := hc1.out noY wr (ExtX.refl _) rfl
      have hrl := hid (hsh'.out.2 m[i] (List.getElem_mem _))
      have hge := hid (appL_getElem (v := x) him hiA)
      have hdb := dot_bounds (hB'.out m[i] (List.getElem_mem _)) hB2'.out hB1 (by rw [hrl.out]; exact hc96) hBB
      have hdot := dot_any (un X oo) wr _ _ m[i] x hXu ⟨a1, c1, rfl, hcl1, hq1⟩ hvr (by rw [hrl.out]; omega) (by rw [hrl.out, hcc.out]) hdb.1 hdb.2
      rw [← hge.out] at hdot
      obtain ⟨v, hv⟩ : ∃ v, (appL m x)[i] = v := ⟨_, rfl⟩
      rw [hv] at hdot htk
      clear hv hc1 hdb
      go_wp2_with (with_reducible refine up_ix1 slRats (by omega) (by assumption) ?_)
      refine hdot.mono ?_
      rintro e w6 ⟨hE6, u6, rfl, hu6⟩
      obtain ⟨s6, a6, n6, c6, d6, k6, e6, rfl⟩ := hu6.shape
      have hO6 := hO.ext0 QC.elem hE6
      have hb6 := hE6.size
      clear k00
      go_wp2_with (at_builtin; refine st_append1n (l := (appL m x).take i) slRat rfl QC.elem (by omega) (hXr.ext hE6) i hln.out rfl rfl hO6 (.agg #[.bool s6, .slice a6 n6 c6, .slice d6 k6 e6]) v rfl hu6 (by omega) (by omega) ?_; intro oo2 co2 w7 hO7 hE7 hor)
      have hE8 := (hE.trans hE6).own hO6 (Nat.le_refl _) hE7
      rw [htk.out] at hO7
      go_roundw
      case rel => exact ⟨i + 1, oo2, co2, by go_num, by go_num, by omega, hO7, hE8⟩
      case measure => simp [intOf]; omega
    · have hil : i = n := by omega
      subst hil
      rw [List.take_of_length_le (by rw [hal.out]; exact Nat.le_refl _)] at hO
      have hc := hO.lenCap
      have hs := hO.sl QC.elem
      go_wp2_with fail
      go_ret2
      exact ⟨hE, _, rfl, oo, co, by rw [hal.out]; rfl, hc, hs⟩

end Go.Proofs.Ytjbhcniiioepgaa
