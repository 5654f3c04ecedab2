/- matrix: copied. Conditions: few rows and columns. Elements of rows that a call has made itself: loads. Conditions: none. Matrices whose elimination stays small: those of small numbers, and those that are reduced. Conditions: none. Products of rows and matrices, the transposed matrix, over lists. Conditions: none. matrix: Transpose. Conditions: few rows and columns, numbers of at most 2^36 digits. -/
import Derived.Test.YtjbhcniiioepgaaGreatSoP
import Derived.BigRegion
namespace Go.Lin
/-- The first i of a, the others of b. -/
def mix {α : Type} (a b : List α) (i : Nat) : List α := a.take i ++ b.drop i
theorem mix_len {α : Type} {a b : List α} (h : a.length = b.length) (i : Nat) : (mix a b i).length = a.length := by simp [mix]; omega
theorem mix_zero {α : Type} (a b : List α) : mix a b 0 = b := by simp [mix]
theorem mix_full {α : Type} {a b : List α} {i : Nat} (h1 : a.length ≤ i) (h2 : b.length ≤ i) : mix a b i = a := by simp [mix, List.take_of_length_le h1, List.drop_of_length_le h2]
theorem mix_getElem {α : Type} {a b : List α} (h : a.length = b.length) (i q : Nat) (hq : q < (mix a b i).length) : (mix a b i)[q] = if q < i then a[q]'(by rw [mix_len h] at hq; exact hq) else b[q]'(by rw [mix_len h] at hq; omega) := by
  have hq' := hq
  rw [mix_len h] at hq'
  have hq2 : q < (a.take i ++ b.drop i).length := hq
  show (a.take i ++ b.drop i)[q]'hq2 = _
  rw [List.getElem_append]
  by_cases a1 : q < i
  · rw [dif_pos (by simp; omega), if_pos a1, List.getElem_take]
  · rw [dif_neg (by simp; omega), if_neg a1, List.getElem_drop]
    congr 1
    simp; omega
theorem mix_set {α : Type} {a b : List α} (h : a.length = b.length) {i : Nat} (hi : i < a.length) : (mix a b i).set i a[i] = mix a b (i + 1) := by
  refine List.ext_getElem (by simp [mix_len h]) fun q h1 h2 => ?_
  rw [List.getElem_set]
  split
  · subst_vars; rw [mix_getElem h, if_pos (by omega)]
  · rw [mix_getElem h, mix_getElem h]
    by_cases a1 : q < i
    · rw [if_pos a1, if_pos (by omega)]
    · rw [if_neg a1, if_neg (by omega)]
theorem mix_at {α : Type} {a b : List α} (h : a.length = b.length) {i : Nat} (hi : i < b.length) : (mix a b i).set i b[i] = mix a b i := by
  refine List.ext_getElem (by simp) fun q h1 h2 => ?_
  rw [List.getElem_set]
  split
  · subst_vars; rw [mix_getElem h, if_neg (by omega)]
  · rfl
end Go.Lin
namespace Go.Proofs.YtjbhcniiioepgaaGreat
open Go.RowKit Go.Rep Go.Lim Go.Lin

set_option maxRecDepth 100000 in
set_option maxHeartbeats 800000 in
theorem copied_any (X : Nat → Bool) (w : World) (u : Value) (m : List (List Rat)) (n c : Nat) (hX : HX X w) (hu : MV (mk X w) u m) (hsh : Shp n c m) (hc : colsL m = c) (hn : n ≤ 1000) (hcc : c ≤ 1000) : Calls Tryz.prog 84 #[u] w (MOut X 33 31 w m) := by
  have hcol := columns_any X w u m hu
  obtain ⟨ao0, ca, rfl, hca, hsa⟩ := hu
  have hha := hsa.hd
  rw [hc] at hcol
  have hml := hid hsh.1
  have hrl := hid hsh.2
  rw [hml.out] at hca hha hcol ⊢
  obtain ⟨A, hA⟩ : ∃ A, List.replicate n (List.replicate c (0 : Rat)) = A := ⟨_, rfl⟩
  have hAl : Hid (A.length = n) := hid (by rw [← hA]; simp)
  have hAi : Hid (∀ i (hi : i < A.length), A[i] = List.replicate c (0 : Rat)) := hid fun i hi => by subst hA; simp
  have hmA : Hid (m.length = A.length) := hid (by rw [hml.out, hAl.out])
  have hz0 := zero_any X w n c hX hn hcc
  rw [hA] at hz0
  clear hA hsh hc
  go_enter Tryz.func84, Tryz.ntmps84
  go_wp2_with fail
  refine hcol.mono ?_
  rintro e w1 ⟨rfl, rfl⟩
  go_wp2_with fail
  refine hz0.mono ?_
  rintro e w2 ⟨hE2, ao, cap, hs, rfl, hM2⟩
  rw [hAl.out]
  have hlen := hid (hM2.len.trans hAl.out)
  have hcap : n ≤ cap := by have := hM2.capLen; rw [hAl.out] at this; exact this
  have hhO : Hd ao n := by have := hM2.outer.hd; rw [hlen.out] at this; exact this
  have hrl2 : Hid (∀ i (hi : i < hs.length), hs[i].2.1 = c) := hid fun i hi => by
    have h1 : i < A.length := by rw [hAl.out, ← hlen.out]; exact hi
    rw [hM2.rlen i hi h1, hAi.out i h1]; simp
  clear hcol hz0
  go_wp2_with fail
  go_loopw [15] (fun k wr => ∃ (i : Nat), k = .int .i64 i ∧ i ≤ n ∧ MO X w1.heap.size 33 31 wr ao cap hs (mix m A i) ∧ Ext w1 wr) (fun k _ => n - (intOf k).toNat)
  case atStart => exact ⟨0, rfl, Nat.zero_le _, by rw [mix_zero]; exact hM2, hE2⟩
  case round =>
    obtain ⟨i, rfl, hi, hM, hE⟩ := hrel
    by_cases hlt : i < n
    · have him : i < m.length := by rw [hml.out]; exact hlt
      have hiA : i < A.length := by rw [hAl.out]; exact hlt
      have hih : i < hs.length := by rw [hlen.out]; exact hlt
      obtain ⟨a1, c1, hX1, hc1, hcl1, hq1⟩ := hsa.row i him
      have k00 := hc1.out noY wr hE rfl
      obtain ⟨x, hx⟩ : ∃ x, m[i] = x := ⟨_, rfl⟩
      obtain ⟨z, hz⟩ : ∃ z, A[i] = z := ⟨_, rfl⟩
      rw [hx] at k00 hcl1 hq1
      have hxl : Hid (x.length = c) := hid (by rw [← hx]; exact hrl.out _ (List.getElem_mem _))
      have hzl : Hid (z.length = c) := hid (by rw [← hz, hAi.out i hiA]; simp)
      have hxz : Hid (x.length = z.length) := hid (by rw [hxl.out, hzl.out])
      rw [hxl.out] at k00 hcl1
      have hst : Hid ((mix m A i).set i z = mix m A i) := hid (by rw [← hz]; exact mix_at hmA.out hiA)
      have hfin : Hid ((mix m A i).set i x = mix m A (i + 1)) := hid (by rw [← hx]; exact mix_set hmA.out him)
      have hmi : Hid (i < (mix m A i).length) := hid (by rw [mix_len hmA.out]; exact him)
      have hh1 : Hd a1 c := by have := hq1.hd; rw [hxl.out] at this; exact this
      have hrow : RV (mk X w1) (.slice a1 c c1) x := ⟨a1, c1, by rw [hxl.out], by rw [hxl.out]; exact hcl1, hq1⟩
      obtain ⟨a, na, cr, hhd⟩ : ∃ a na cr, hs[i] = (a, na, cr) := ⟨_, _, _, rfl⟩
      have hna : na = c := by have := hrl2.out i hih; rw [hhd] at this; exact this
      subst hna
      have hhd' := hid hhd
      rw [← hst.out] at hM
      have hM' : MO X w1.heap.size 33 31 wr ao cap hs ((mix m A i).set i (mix x z 0)) := by rw [mix_zero]; exact hM
      clear hx hz hc1 hq1 hhd hM
      obtain ⟨wo, hwo⟩ : ∃ wo, wo = wr := ⟨_, rfl⟩
      subst hwo
      go_wp2_with (with_reducible refine up_ix1 slRats (by omega) (by assumption) ?_)
      go_loopw [22] (fun k wr => ∃ (j : Nat), k = .int .i64 j ∧ j ≤ na ∧ MO X w1.heap.size 33 31 wr ao cap hs ((mix m A i).set i (mix x z j)) ∧ Ext w1 wr) (fun k _ => na - (intOf k).toNat)
      case atStart => exact ⟨0, rfl, Nat.zero_le _, hM', hE⟩
      case round =>
        obtain ⟨j, rfl, hj, hM, hE⟩ := hrel
        by_cases hlj : j < na
        · have hjx : j < x.length := by rw [hxl.out]; exact hlj
          have hXr : HX X wr := hX.ext hE
          have hXz := hM.hz hXr
          have hsr : Sl QV 3 (mk (mz X ao hs) wr) a1 x := by
            obtain ⟨_, _, heq, _, h3⟩ := hM.old RV.mono hrow hE (Nat.le_refl _) (fun _ _ h => h)
            simp only [Value.slice.injEq] at heq
            obtain ⟨rfl, _, rfl⟩ := heq
            exact h3
          have hmx : Hid (i < ((mix m A i).set i (mix x z j)).length) := hid (by rw [List.length_set]; exact hmi.out)
          have hjl : Hid ((mix x z j).length = na) := hid (by rw [mix_len hxz.out, hxl.out])
          have hOr := hM.row i hih hmx.out
          rw [List.getElem_set_self] at hOr
          simp only [hhd'.out] at hOr
          have hda : Hd a na := by have := hOr.hd; rw [hjl.out] at this; exact this
          have hun : Hid (un (cut (mz X ao hs) a) a = mz X ao hs) := hid (un_cut fun k hk => by have := hM.mz_sub hih k; rw [hhd'.out] at this; exact this hk)
          have hbsep : Hid (ob a (adr ao i).block = false) := hid (by
            cases hb : ob a (adr ao i).block
            · rfl
            · have h1 := (hM.sep i hih (adr ao i).block (by rw [hhd'.out]; exact hb)).2
              obtain ⟨b0, o0, rfl⟩ := hhO (by omega)
              simp [ob, adr] at h1)
          have hbnew : Hid (ob a wr.heap.size = false) := hid (hOr.ob_ge (Nat.le_refl _))
          obtain ⟨g, o, hg⟩ : ∃ g o, adr a (j * 3) = ⟨g, o, none⟩ := ⟨_, _, rfl⟩
          have i2 : ∀ W, (Instr.indexAt 23 (.slice ao n cap) (.int .i64 (i : Int))).run Tryz.prog W = .ok (.pointer (some (adr ao i))) W := run_ix1 slRats ao n cap .i64 i hhO (by omega) rfl
          have i3 : ∀ W, (Instr.indexAt 33 (.slice a na cr) (.int .i64 (j : Int))).run Tryz.prog W = .ok (.pointer (some ⟨g, o, none⟩)) W := by rw [← hg]; exact run_indexAt_adr slRat a na cr .i64 j hda (by omega)
          have bx := Bx.new wr #[.bool false, .slice none 0 0, .slice none 0 0] 31
          obtain ⟨Z, hZ⟩ : ∃ Z, mz X ao hs = Z := ⟨_, rfl⟩
          have hZ' := hid hZ
          rw [hZ] at hXz hsr hOr hun
          have hjs : Hid ((mix x z j).set j x[j] = mix x z (j + 1)) := hid (mix_set hxz.out hjx)
          have hadd0 : Hid (x[j] + 0 = x[j]) := hid (Rat.add_zero _)
          have hhdr := (hM.hdr i hih).1
          rw [hhd'.out] at hhdr
          dsimp only at hhdr
          clear hZ k00
          go_wp2_with (first | (with_reducible refine up_ixn slRat (by omega) (by assumption) ?_) | ((with_reducible show wpList _ _ _ (⟨_, .load _ _, _, _, _, _⟩ :: _) _ _); refine st_loadElem stRat j hsr hjx rfl (by simp) QV.agg ?_; intro u5 hu5; obtain ⟨s5, a5, n5, c5, d5, k5, e5, rfl⟩ := hu5.shape) | ((with_reducible show wpList _ _ _ (⟨_, .store _ _ _, _, _, _, _⟩ :: _) _ _); refine st_storeBox stRat rfl rfl bx rfl rfl (one3 _ _ _ _ _ _ _) ?_; intro w5 r1 r2))
          have hE5 : Ext wr w5 := ExtX.box ((ExtX.refl wr).alloc _) r2 (Nat.le_refl _)
          have hEd : Ext w5 w5.drew := (ExtX.refl w5).drew
          have hM5 := hM.ext0 hE5
          have hO5 := hOr.ext0 QC.elem hE5
          have hx5 : QV (mk Z w5.drew) (.agg #[.bool s5, .slice a5 n5 c5, .slice d5 k5 e5]) x[j] := mkx QV.mono hu5 (hE5.trans hEd)
          have h00 : QV (mk Z w5.drew) (.agg #[.bool false, .slice none 0 0, .slice none 0 0]) 0 := (QC.zero _).qv (by rw [hq_zero]; decide)
          have hXd : HX Z w5.drew := hXz.ext (hE5.trans hEd)
          have hS : Hid (∀ Y W', ExtX Y w5.drew W' → Y (adr ao i).block = false → Y wr.heap.size = false → W'.cell? (adr ao i) = some (.slice a na cr) ∧ W'.cell? ⟨wr.heap.size, 0, none⟩ = some (.bool s5) ∧ W'.cell? ⟨wr.heap.size, 1, none⟩ = some (.slice a5 n5 c5) ∧ W'.cell? ⟨wr.heap.size, 2, none⟩ = some (.slice d5 k5 e5)) := hid fun Y W' h hy1 hy2 => by
            have b1 := (r1.ext0 hEd).ext h hy2
            exact ⟨h.cellY ((hE5.trans hEd).cell hhdr) hy1, b1.cell 0 rfl, b1.cell 1 rfl, b1.cell 2 rfl⟩
          obtain ⟨k20, k30, k31, k32⟩ := hS.out noY w5.drew (ExtX.refl _) rfl rfl
          obtain ⟨bw, hbw⟩ : ∃ bw, wr.heap.size = bw := ⟨_, rfl⟩
          rw [hbw] at hS k30 k31 k32 hbnew ⊢
          clear hhdr r1 bx
          go_wp2_with fail
          go_region_held3 (fun w' => w'.cell? (adr ao i) = some (.slice a na cr) ∧ w'.cell? ⟨bw, 0, none⟩ = some (.bool s5) ∧ w'.cell? ⟨bw, 1, none⟩ = some (.slice a5 n5 c5) ∧ w'.cell? ⟨bw, 2, none⟩ = some (.slice d5 k5 e5))
            (first | exact hS.out noY _ t1 rfl rfl | exact hS.out (ob a) _ ((ExtX.of t1).trans hset.2) hbsep.out hbnew.out | go_keep)
            ((go_at_call 110; (with_reducible refine (qadd Z w5.drew _ _ _ 0 hXd hx5 h00).mono ?_); rintro ee w6 ⟨t1, u6, rfl, hu6⟩; obtain ⟨s6, a6, n6, c6, d6, k6, e6, rfl⟩ := hu6.shape; rw [hadd0.out] at hu6; have hO6 := hO5.ext0 QC.elem (hEd.trans t1); obtain ⟨_, v0, v1, v2, _, ⟨g0, f0⟩, ⟨g1, f1⟩, ⟨g2, f2⟩, _⟩ := hO6.cell3 j (by rw [hjl.out]; exact hlj) hg; have hset := hO6.set3 tyRat QC.elem j (by rw [hjl.out]; exact hlj) hg (v0 := .bool s6) (v1 := .slice a6 n6 c6) (v2 := .slice d6 k6 e6) (x := x[j]) (by rw [hun.out]; exact hu6)))
          obtain ⟨q1, q2⟩ := hset
          rw [hjs.out] at q1
          have q2' : ExtX (ob hs[i].1) w6 (((w6.setCell ⟨g, o, none⟩ (.bool s6)).setCell ⟨g, o + 1, none⟩ (.slice a6 n6 c6)).setCell ⟨g, o + 2, none⟩ (.slice d6 k6 e6)) := by rw [hhd'.out]; exact q2
          have hM6 := hM5.ext0 (hEd.trans t1)
          have hM7 := hM6.upd hih (l := mix x z (j + 1)) q2' (fun hi' => by rw [List.getElem_set_self, mix_len hxz.out, mix_len hxz.out]) (by rw [hZ'.out, hhd'.out]; exact q1)
          rw [List.set_set] at hM7
          have hE7 := hM6.ext_from ((hE.trans hE5).trans (hEd.trans t1)) (Nat.le_refl _) (ExtX.row hih q2')
          clear k20 k30 k31 k32 g0 g1 g2 f0 f1 f2 i2 i3
          go_wp2_with fail
          go_roundw
          case rel => exact ⟨j + 1, by go_num, by omega, hM7, hE7⟩
          case measure => simp [intOf]; omega
        · have hjn : j = na := by omega
          subst hjn
          rw [mix_full (a := x) (b := z) (by rw [hxl.out]; exact Nat.le_refl _) (by rw [hzl.out]; exact Nat.le_refl _), hfin.out] at hM
          go_wp2_with fail
          go_roundw
          case rel => exact ⟨i + 1, by go_num, by omega, hM, hE⟩
          case measure => simp [intOf]; omega
    · have hin : i = n := by omega
      subst hin
      rw [mix_full (by rw [hml.out]; exact Nat.le_refl _) (by rw [hAl.out]; exact Nat.le_refl _)] at hM
      go_wp2_with fail
      go_ret
      exact ⟨hE, ao, cap, hs, by rw [hml.out]; rfl, hM⟩
end Go.Proofs.YtjbhcniiioepgaaGreat

namespace Go.Rep
open Go.RowKit Go.Lim
section
variable {P : Program} {ops : Array Oper} {Q : Exit → Act → World → Prop} {rest : List Oper} {a : Act} {w : World}
variable {α : Type} {R : Mem → Value → α → Prop} {sz : Nat} {X : Nat → Bool} {base : Nat} {e : TypeId} {ao : Option Addr} {cap : Nat} {l : List α}
variable {d : Option Tmp} {ty : TypeId} {ps : String} {af : Array Edge}
theorem st_loadOL {t : TypeId} {x : Operand} {k : Nat} (hT : StructT P t sz) (i : Nat) (h : OL R sz X base e w ao cap l) (hi : i < l.length) (hx : a.eval x = .pointer (some (adr ao k))) (hk : k = i * sz) (hag : ∀ h u y, R h u y → ∃ cs, u = .agg cs)
    (K : ∀ u, R (mk (un X ao) w) u l[i] → wpList P ops Q rest (a.put d u) w) :
    wpList P ops Q (⟨d, .load t x, ty, ps, af, none⟩ :: rest) a w := by
  refine wpList_plain rfl fun K' hK' => ?_
  subst hk
  obtain ⟨fs, ti, h1, h2, h3⟩ := hT
  obtain ⟨us, p1, p2, _, p3, p5⟩ := h.cells
  have hi' : i < us.length := by omega
  have h6 := p5 i hi' hi
  obtain ⟨cs, hcs⟩ := hag _ _ _ h6
  have hsz : cs.toList.length = sz := by have := p2 us[i] (List.getElem_mem _); rw [hcs] at this; simpa [Value.cells] using this
  have hl := run_loadCells_list (P := P) w (adr ao (i * sz)) cs.toList (fun j v hj => by
    rw [adr_add]
    have hj1 : j < sz := by rw [← hsz]; exact (List.getElem?_eq_some_iff.1 hj).1
    have hget := flat_get us i j hi' p2 hj1
    rw [hcs] at hget
    have hj2 : (cellsL (.agg cs))[j]? = some v := by simpa [cellsL, Value.cells] using hj
    rw [hj2] at hget
    exact (p3 _ _ hget).1)
  rw [hsz] at hl
  unfold Oper.wp
  simp [execOp, hx, Instr.loadAt, Instr.sureAddr, loadVar, isAgg, run_underlying h1, sizeOf, typeInfo, h2, h3, hl, Result.andThen]
  rw [hcs] at h6
  exact hK' _ _ (K _ h6)
end
/-- The struct at an element's address, now and in all worlds behind that leave the list's block. -/
theorem OL.rat {R : Mem → Value → Rat → Prop} (hR : Shaped R) {X : Nat → Bool} {base : Nat} {e : TypeId} {w : World} {ao : Option Addr} {cap : Nat} {l : List Rat} (h : OL R 3 X base e w ao cap l) (i : Nat) (hi : i < l.length) :
    ∃ g o sg a n c d k e, adr ao (i * 3) = ⟨g, o, none⟩ ∧ ob ao g = true ∧ Hid (∀ Y W', ExtX Y w W' → Y g = false → W'.cell? ⟨g, o, none⟩ = some (.bool sg) ∧ W'.cell? ⟨g, o + 1, none⟩ = some (.slice a n c) ∧ W'.cell? ⟨g, o + 2, none⟩ = some (.slice d k e)) ∧ R (mk (un X ao) w) (.agg #[.bool sg, .slice a n c, .slice d k e]) l[i] := by
  obtain ⟨b0, o0, hb0⟩ := h.hd (by omega)
  have hg : adr ao (i * 3) = ⟨b0, o0 + i * 3, none⟩ := by rw [hb0]; rfl
  obtain ⟨u, v0, v1, v2, hu, ⟨h0, _⟩, ⟨h1, _⟩, ⟨h2, _⟩, h3⟩ := h.cell3 i hi hg
  obtain ⟨sg, a, n, c, d, k, e, rfl⟩ := hR _ _ _ h3
  simp only [cellsL, Value.cells, List.cons.injEq, and_true] at hu
  obtain ⟨rfl, rfl, rfl⟩ := hu
  exact ⟨_, _, sg, a, n, c, d, k, e, hg, by rw [hb0]; simp [ob], hid fun Y W' hE hY => ⟨hE.cellY h0 hY, hE.cellY h1 hY, hE.cellY h2 hY⟩, h3⟩
end Go.Rep

namespace Go.Lin
open Go.Lim
/-- All numbers that the program's elimination meets are of few digits. -/
def Tame (m : Mat) (c : Nat) : Prop := ∃ B, 7 * B ≤ 68719476736 ∧ (∀ j, j ≤ c → HB B (eN m j).1) ∧ ∀ t, t ≤ (eN m c).2.1.length → HB B (dN (eN m c).1 (eN m c).2.1 t)
theorem pow_le (a : Nat) {i n : Nat} (ha : 0 < a) (h : i ≤ n) : a ^ i ≤ a ^ n := Nat.pow_le_pow_right ha h
theorem tame_of {n c B : Nat} {m : Mat} (hs : Shp n c m) (h : HB B m) (hB : 7 * (35 ^ n * B) ≤ 68719476736) : Tame m c := by
  have hle : ∀ j, (eN m j).2.1.length ≤ n := fun j => (eN_ok hs j).ech.le
  refine ⟨35 ^ n * B, hB, fun j _ => (h.eN hs j).mono (Nat.mul_le_mul_right _ ?_), fun t ht => (((h.eN hs c).dN (eN_ok hs c).shp (eN_ok hs c).ech t ht)).mono ?_⟩
  · exact Nat.le_trans (pow_le 5 (by omega) (hle j)) (Nat.pow_le_pow_left (by omega) n)
  · rw [← Nat.mul_assoc]
    refine Nat.mul_le_mul_right _ ?_
    rw [show (35 : Nat) = 7 * 5 from rfl, Nat.mul_pow]
    exact Nat.mul_le_mul (pow_le 7 (by omega) (Nat.le_trans ht (hle c))) (pow_le 5 (by omega) (hle c))
/-- .. in its first phase alone. -/
def TameE (m : Mat) (c : Nat) : Prop := ∃ B, 7 * B ≤ 68719476736 ∧ ∀ j, j ≤ c → HB B (eN m j).1
theorem Tame.e {m : Mat} {c : Nat} (h : Tame m c) : TameE m c := let ⟨B, h1, h2, _⟩ := h; ⟨B, h1, h2⟩
theorem tamee_of {n c B : Nat} {m : Mat} (hs : Shp n c m) (h : HB B m) (hB : 7 * (5 ^ n * B) ≤ 68719476736) : TameE m c :=
  ⟨5 ^ n * B, hB, fun j _ => (h.eN hs j).mono (Nat.mul_le_mul_right _ (pow_le 5 (by omega) (eN_ok hs j).ech.le))⟩
theorem hb_redP {n c B : Nat} {m : Mat} (h : HB B m) (hs : Shp n c m) : HB (35 ^ n * B) (redP m c).1 := by
  have hle : (eN m c).2.1.length ≤ n := (eN_ok hs c).ech.le
  refine ((h.eN hs c).dN (eN_ok hs c).shp (eN_ok hs c).ech _ (Nat.le_refl _)).mono ?_
  rw [← Nat.mul_assoc]
  refine Nat.mul_le_mul_right _ ?_
  rw [show (35 : Nat) = 7 * 5 from rfl, Nat.mul_pow]
  exact Nat.mul_le_mul (pow_le 7 (by omega) hle) (pow_le 5 (by omega) hle)

theorem rows_id {m : Mat} {f : Nat → List Rat → List Rat} (h : ∀ i (hi : i < m.length), f i m[i] = m[i]) : rows m f = m := by
  refine List.ext_getElem (by simp [rows]) fun i h1 h2 => ?_
  simp only [rows, List.getElem_mapIdx]
  exact h i h2
theorem clear_id {n c : Nat} {m : Mat} (hs : Shp n c m) {t : Nat} (ht : t < n) (col s : Nat) (h : ∀ i, t < i → i < n → ent m i col = 0) : clear m t col s = m := by
  refine rows_id fun i hi => ?_
  have hin : i < n := by rw [← hs.1]; exact hi
  split
  · rename_i a
    refine elimL_zero _ _ _ (by rw [hs.2 _ (List.getElem_mem _), hs.row ht]) ?_
    have := h i a.1 hin
    unfold ent at this
    rw [show m.getD i [] = m[i] by simp [List.getD_eq_getElem?_getD, hi]] at this
    rw [this]; grind
  · rfl
theorem above_id {n c : Nat} {m : Mat} (hs : Shp n c m) {t : Nat} (ht : t < n) (col s : Nat) (h : ∀ i, i < t → ent m i col = 0) : above m t col s = m := by
  refine rows_id fun i hi => ?_
  split
  · rename_i a
    refine elimL_zero _ _ _ (by rw [hs.2 _ (List.getElem_mem _), hs.row ht]) ?_
    have := h i a.1
    unfold ent at this
    rw [show m.getD i [] = m[i] by simp [List.getD_eq_getElem?_getD, hi]] at this
    rw [this]; grind
  · rfl
theorem divL_id {n c : Nat} {m : Mat} (hs : Shp n c m) {t : Nat} (ht : t < n) (col : Nat) (h : ent m t col = 1) : divL m t col = m := by
  unfold divL
  rw [h]
  have e : (m.getD t []).map (· / 1) = m.getD t [] := by
    rw [show (fun x : Rat => x / 1) = id from by funext x; simp only [id]; grind, List.map_id]
  have htl : t < m.length := by rw [hs.1]; exact ht
  rw [e]; simp [List.getD_eq_getElem?_getD, htl]
/-- The elimination leaves a reduced form as it is. -/
theorem eN_red {n c : Nat} {m : Mat} {p : List Nat} (hs : Shp n c m) (hr : Rref n c (ent m) p) (j : Nat) (hj : j ≤ c) : eN m j = (m, p.filter (· < j), false) := by
  induction j with
  | zero => simp [eN]
  | succ j ih =>
    have ih := ih (by omega)
    have hpre : ∀ q : List Nat, q.Pairwise (· < ·) → ∀ i (hi : i < q.length), q[i] < j ↔ i < (q.filter (· < j)).length := by
      intro q
      induction q with
      | nil => intro _ i hi; simp at hi
      | cons a q ihq =>
        intro hp i hi
        rw [List.pairwise_cons] at hp
        by_cases ha : a < j
        · rw [List.filter_cons_of_pos (by simpa using ha), List.length_cons]
          match i with
          | 0 => simp [ha]
          | i + 1 => simpa using ihq hp.2 i (by simpa using hi)
        · have hnil : q.filter (· < j) = [] := by
            rw [List.filter_eq_nil_iff]; intro x hx; have := hp.1 x hx; simp; omega
          rw [List.filter_cons_of_neg (by simpa using ha), hnil]
          match i with
          | 0 => simp [ha]
          | i + 1 =>
            have hi' : i < q.length := by simpa using hi
            have := hp.1 q[i] (List.getElem_mem _)
            simp; omega
    have hpp := hpre p hr.pw
    show eStep (eN m j) j = _
    rw [ih]
    have hle := hr.le
    have hfl : (p.filter (· < j)).length ≤ p.length := List.length_filter_le _ _
    have hsucc : ∀ q : List Nat, q.Pairwise (· < ·) → q.filter (· < j + 1) = q.filter (· < j) ++ (if j ∈ q then [j] else []) := by
      intro q
      induction q with
      | nil => intro _; simp
      | cons a q ihq =>
        intro hp
        rw [List.pairwise_cons] at hp
        rcases Nat.lt_trichotomy a j with h | h | h
        · rw [List.filter_cons_of_pos (by simp; omega), List.filter_cons_of_pos (by simpa using h), ihq hp.2]
          simp [show ¬ j = a by omega]
        · subst h
          have hnil : q.filter (· < a) = [] := by
            rw [List.filter_eq_nil_iff]; intro x hx; have := hp.1 x hx; simp; omega
          have hnil2 : q.filter (· < a + 1) = [] := by
            rw [List.filter_eq_nil_iff]; intro x hx; have := hp.1 x hx; simp; omega
          rw [List.filter_cons_of_pos (by simp), List.filter_cons_of_neg (by simp), hnil, hnil2]
          simp
        · have hnil : q.filter (· < j) = [] := by
            rw [List.filter_eq_nil_iff]; intro x hx; have := hp.1 x hx; simp; omega
          have hnil2 : q.filter (· < j + 1) = [] := by
            rw [List.filter_eq_nil_iff]; intro x hx; have := hp.1 x hx; simp; omega
          have hnm : ¬ j ∈ q := fun hx => by have := hp.1 j hx; omega
          rw [List.filter_cons_of_neg (by simp; omega), List.filter_cons_of_neg (by simp; omega), hnil, hnil2]
          simp [hnm, show ¬ j = a by omega]
    rw [hsucc p hr.pw]
    unfold eStep
    dsimp only
    split
    · rename_i e
      have hnm : ¬ j ∈ p := fun hx => by
        obtain ⟨i, hi, rfl⟩ := List.getElem_of_mem hx
        have h1 := (hpp i hi).2 (by rw [hs.1] at e; omega)
        omega
      simp [hnm]
    · rename_i e
      rw [hs.1] at e
      have htn : (p.filter (· < j)).length < n := by omega
      by_cases hjp : j ∈ p
      · obtain ⟨i, hi, hij⟩ := List.getElem_of_mem hjp
        have h1 : ¬ i < (p.filter (· < j)).length := fun h => by have := (hpp i hi).2 h; omega
        have h2 : (p.filter (· < j)).length = i := by
          refine Classical.byContradiction fun hne => ?_
          have h3 : (p.filter (· < j)).length < i := by omega
          have h4 := hr.inc _ i h3 hi
          have h5 := (hpp (p.filter (· < j)).length (by omega)).1 (by rw [hij] at h4; exact h4)
          omega
        rw [h2] at htn ⊢
        have hone := hr.one i hi
        rw [hij] at hone
        have hnz : nzAt m i j = some 0 := by
          unfold nzAt
          have hlt : i < m.length := by rw [hs.1]; exact htn
          rw [List.drop_eq_getElem_cons hlt, List.findIdx?_cons]
          have : decide (m[i].getD j 0 ≠ 0) = true := by
            unfold ent at hone
            rw [show m.getD i [] = m[i] by simp [List.getD_eq_getElem?_getD, hlt]] at hone
            rw [hone]; decide
          rw [this]; rfl
        rw [hnz]
        dsimp only
        rw [Nat.add_zero, swapL_self m i (by rw [hs.1]; exact htn), clear_id hs htn j _ (fun q hq hqn => by have := hr.zero i hi q hqn (by omega); rw [hij] at this; exact this)]
        simp [hjp]
      · have hz : nzAt m (p.filter (· < j)).length j = none := by
          unfold nzAt
          rw [List.findIdx?_eq_none_iff]
          intro r hrm
          obtain ⟨q, hq, rfl⟩ := List.getElem_of_mem hrm
          rw [List.length_drop] at hq
          rw [List.getElem_drop]
          have h0 : ent m ((p.filter (· < j)).length + q) j = 0 := by
            by_cases hqp : (p.filter (· < j)).length + q < p.length
            · refine hr.left _ hqp j ?_
              have h1 : ¬ p[(p.filter (· < j)).length + q] < j := fun h => by have := (hpp _ hqp).1 h; omega
              have h2 : p[(p.filter (· < j)).length + q] ≠ j := fun h => hjp (h ▸ List.getElem_mem _)
              omega
            · exact hr.below _ (by omega) (by rw [← hs.1]; omega) j (by omega)
          have hl : (p.filter (· < j)).length + q < m.length := by omega
          unfold ent at h0
          rw [show m.getD ((p.filter (· < j)).length + q) [] = m[(p.filter (· < j)).length + q] by simp [List.getD_eq_getElem?_getD, hl]] at h0
          rw [h0]; decide
        rw [hz]
        simp [hjp]
theorem filter_all {p : List Nat} {c : Nat} (h : ∀ i (hi : i < p.length), p[i] < c) : p.filter (· < c) = p := by
  rw [List.filter_eq_self]; intro x hx
  obtain ⟨i, hi, rfl⟩ := List.getElem_of_mem hx
  simpa using h i hi
theorem dN_red {n c : Nat} {m : Mat} {p : List Nat} (hs : Shp n c m) (hr : Rref n c (ent m) p) (t : Nat) (ht : t ≤ p.length) : dN m p t = m := by
  induction t with
  | zero => rfl
  | succ t ih =>
    have htn : t < n := Nat.lt_of_lt_of_le (show t < p.length by omega) hr.le
    have hp : p.getD t 0 = p[t]'(by omega) := by simp [List.getD_eq_getElem?_getD, show t < p.length by omega]
    show dStep (dN m p t) t (p.getD t 0) = m
    rw [ih (by omega), hp]
    unfold dStep
    rw [divL_id hs htn _ (hr.one t (by omega)), above_id hs htn _ _ (fun i hi => hr.zero t (by omega) i (by omega) (by omega))]
theorem tame_red {n c B : Nat} {m : Mat} {p : List Nat} (hs : Shp n c m) (hr : Rref n c (ent m) p) (h : HB B m) (hB : 7 * B ≤ 68719476736) : Tame m c := by
  refine ⟨B, hB, fun j hj => by rw [eN_red hs hr j hj]; exact h, fun t ht => ?_⟩
  rw [eN_red hs hr c (Nat.le_refl _), filter_all hr.lt] at ht ⊢
  rw [dN_red hs hr t ht]; exact h
end Go.Lin

namespace Go.Lin
open Go.Lim
/-- The sum of the first k products. -/
def dotN (l m : List Rat) : Nat → Rat
  | 0 => 0
  | k + 1 => dotN l m k + l.getD k 0 * m.getD k 0
def dotL (l m : List Rat) : Rat := dotN l m l.length
theorem dotN_sm (l m : List Rat) (k : Nat) : dotN l m k = sm k fun q => l.getD q 0 * m.getD q 0 := by
  induction k with
  | zero => rfl
  | succ k ih => unfold dotN sm; rw [ih]
theorem dotN_comm (l m : List Rat) (k : Nat) : dotN l m k = dotN m l k := by
  rw [dotN_sm, dotN_sm]; exact sm_congr fun q _ => by grind
theorem dotN_hq {l m : List Rat} {B : Nat} (hl : Go.Rep.BR B l) (hm : Go.Rep.BR B m) (hB : 1 ≤ B) (k : Nat) : hq (dotN l m k) ≤ 1 + k * (2 * B + 1) := by
  have hg : ∀ (x : List Rat), Go.Rep.BR B x → ∀ q, hq (x.getD q 0) ≤ B := fun x hx q => by
    by_cases h : q < x.length
    · rw [List.getD_eq_getElem?_getD, List.getElem?_eq_getElem h]; exact hx _ (List.getElem_mem h)
    · rw [List.getD_eq_getElem?_getD, List.getElem?_eq_none (by omega)]
      show hq 0 ≤ B
      rw [hq_zero]; exact hB
  induction k with
  | zero => show hq 0 ≤ _; rw [hq_zero]; omega
  | succ k ih =>
    have h1 := hq_mul (l.getD k 0) (m.getD k 0)
    have h2 := hq_add (dotN l m k) (l.getD k 0 * m.getD k 0)
    have h3 := hg l hl k
    have h4 := hg m hm k
    show hq (dotN l m k + l.getD k 0 * m.getD k 0) ≤ _
    rw [Nat.add_mul, Nat.one_mul]
    omega
/-- The transposed matrix. -/
def trL (m : Mat) (n c : Nat) : Mat := (List.range c).map fun q => (List.range n).map fun p => ent m p q
/-- .. when i columns of it are written, and j numbers of the next. -/
def trN (m : Mat) (n c i j : Nat) : Mat := (List.range c).map fun q => (List.range n).map fun p => if p < i ∨ (p = i ∧ q < j) then ent m p q else 0
theorem trN_zero (m : Mat) (n c : Nat) : trN m n c 0 0 = List.replicate c (List.replicate n 0) := by
  refine List.ext_getElem (by simp [trN]) fun q h1 h2 => List.ext_getElem (by simp [trN]) fun p h3 h4 => by simp [trN]
theorem trN_next (m : Mat) (n c i : Nat) : trN m n c i c = trN m n c (i + 1) 0 := by
  refine List.ext_getElem (by simp [trN]) fun q h1 h2 => List.ext_getElem (by simp [trN]) fun p h3 h4 => ?_
  simp [trN] at h1
  simp only [trN, List.getElem_map, List.getElem_range]
  by_cases a : p < i
  · rw [if_pos (.inl a), if_pos (.inl (by omega))]
  · by_cases b : p = i
    · rw [if_pos (.inr ⟨b, by omega⟩), if_pos (.inl (by omega))]
    · rw [if_neg (by omega), if_neg (by omega)]
theorem trN_full (m : Mat) (n c : Nat) : trN m n c n 0 = trL m n c := by
  refine List.ext_getElem (by simp [trN, trL]) fun q h1 h2 => List.ext_getElem (by simp [trN, trL]) fun p h3 h4 => ?_
  simp [trN] at h3
  simp only [trN, trL, List.getElem_map, List.getElem_range]
  rw [if_pos (.inl h3)]
theorem trN_len (m : Mat) (n c i j : Nat) : (trN m n c i j).length = c := by simp [trN]
theorem trN_rlen (m : Mat) (n c i j q : Nat) (h : q < (trN m n c i j).length) : (trN m n c i j)[q].length = n := by simp [trN]
theorem trN_set {m : Mat} {n c i j : Nat} (h : j < (trN m n c i j).length) : (trN m n c i j).set j ((trN m n c i j)[j].set i (ent m i j)) = trN m n c i (j + 1) := by
  refine List.ext_getElem (by simp [trN]) fun q h1 h2 => List.ext_getElem ?_ fun p h3 h4 => ?_
  · rw [List.getElem_set]; split <;> simp [trN]
  · simp only [List.getElem_set]
    by_cases a : j = q
    · subst a
      simp only [if_true, List.getElem_set]
      by_cases b : i = p
      · subst b; simp [trN]
      · rw [if_neg b]
        simp only [trN, List.getElem_map, List.getElem_range]
        by_cases d : p < i
        · rw [if_pos (.inl d), if_pos (.inl d)]
        · rw [if_neg (by omega), if_neg (by omega)]
    · simp only [a, if_false]
      simp only [trN, List.getElem_map, List.getElem_range]
      by_cases d : p < i
      · rw [if_pos (.inl d), if_pos (.inl d)]
      · by_cases b : p = i ∧ q < j
        · rw [if_pos (.inr b), if_pos (.inr (by omega))]
        · rw [if_neg (by omega), if_neg (by omega)]
theorem trL_shp (m : Mat) (n c : Nat) : Shp c n (trL m n c) := ⟨by simp [trL], fun r hr => by
  obtain ⟨q, _, rfl⟩ := List.mem_map.1 hr; simp⟩
theorem ent_trL (m : Mat) (n c : Nat) : Eqm c n (ent (trL m n c)) fun i j => ent m j i := fun i hi j hj => by
  simp [ent, trL, List.getD_eq_getElem?_getD, hi, hj]
theorem trL_hb {m : Mat} {n c B : Nat} (h : HB B m) : HB B (trL m n c) := fun i j => by
  by_cases hi : i < c
  · by_cases hj : j < n
    · rw [ent_trL m n c i hi j hj]; exact h j i
    · rw [ent_out (trL_shp m n c) (.inr (by omega)), hq_zero]; exact h.pos
  · rw [ent_out (trL_shp m n c) (.inl (by omega)), hq_zero]; exact h.pos
/-- A matrix times a column; a product of two. -/
def appL (m : Mat) (v : List Rat) : List Rat := m.map fun r => dotL r v
def mulL (a b : Mat) (n c : Nat) : Mat := a.map fun r => appL (trL b n c) r
theorem appL_len (m : Mat) (v : List Rat) : (appL m v).length = m.length := by simp [appL]
theorem mulL_shp {a b : Mat} {k n c : Nat} (ha : a.length = k) : Shp k c (mulL a b n c) := ⟨by simp [mulL, ha], fun r hr => by
  obtain ⟨x, _, rfl⟩ := List.mem_map.1 hr; simp [appL, trL]⟩
theorem ent_mulL {a b : Mat} {k n c : Nat} (ha : Shp k n a) : Eqm k c (ent (mulL a b n c)) (mul n (ent a) (ent b)) := fun i hi j hj => by
  have hil : i < a.length := by rw [ha.1]; exact hi
  have hrl : (a[i]).length = n := ha.2 _ (List.getElem_mem _)
  have e1 : ent (mulL a b n c) i j = dotL ((trL b n c).getD j []) (a[i]) := by
    unfold ent mulL
    rw [List.getD_eq_getElem?_getD (l := List.map _ _), List.getElem?_map, List.getElem?_eq_getElem hil]
    have hj2 : j < (trL b n c).length := by simp [trL, hj]
    simp [appL, List.getD_eq_getElem?_getD, hj2]
  rw [e1]
  unfold dotL
  rw [(trL_shp b n c).row hj, dotN_sm]
  unfold mul
  refine sm_congr fun q hq => ?_
  have e2 := ent_trL b n c j hj q hq
  unfold ent at e2 ⊢
  rw [e2, show a.getD i [] = a[i] by simp [List.getD_eq_getElem?_getD, hil]]
  grind
theorem appL_sm {m : Mat} {v : List Rat} {n c : Nat} (hs : Shp n c m) (i : Nat) (hi : i < n) : (appL m v).getD i 0 = sm c fun j => ent m i j * v.getD j 0 := by
  have hil : i < m.length := by rw [hs.1]; exact hi
  have hrl : (m[i]).length = c := hs.2 _ (List.getElem_mem _)
  have e : (appL m v).getD i 0 = dotL m[i] v := by simp [appL, List.getD_eq_getElem?_getD, hil]
  rw [e]; unfold dotL
  rw [hrl, dotN_sm]
  unfold ent
  rw [show m.getD i [] = m[i] by simp [List.getD_eq_getElem?_getD, hil]]
end Go.Lin

namespace Go.Proofs.YtjbhcniiioepgaaGreat
open Go.RowKit Go.Rep Go.Lim Go.Lin

/-- A matrix and no error. -/
def M2Out (X : Nat → Bool) (w : World) (m : List (List Rat)) (e : Ending) (w' : World) : Prop := Ext w w' ∧ ∃ u, e = .returned (.tuple #[u, .int .i64 0]) ∧ MC (mk X w') u m

theorem transpose_no (X : Nat → Bool) (w : World) (u : Value) (m : List (List Rat)) (hu : MV (mk X w) u m) (hl : m.length ≤ 1099511627776) (hf : formedB m = false) : Calls Tryz.prog 44 #[u] w (fun e w' => w' = w ∧ e = .returned (.tuple #[.slice none 0 0, .int .i64 6])) := by
  have hfo := formed_any X w u m hu hl
  rw [hf] at hfo
  clear hf
  go_enter Tryz.func44, Tryz.ntmps44
  go_wp2_with fail
  refine hfo.mono ?_
  rintro e w1 ⟨rfl, rfl⟩
  go_wp2_with fail
  go_ret2
  exact ⟨rfl, rfl⟩

set_option maxRecDepth 100000 in
set_option maxHeartbeats 1600000 in
theorem transpose_ok (X : Nat → Bool) (w : World) (u : Value) (m : List (List Rat)) (n c : Nat) (hX : HX X w) (hu : MV (mk X w) u m) (hf : formedB m = true) (hnn : m.length = n) (hcc : colsL m = c) : Calls Tryz.prog 44 #[u] w (M2Out X w (trL m n c)) := by
  obtain ⟨hsh, h96, hc96, _, _⟩ := formedB_shp hf
  rw [hnn, hcc] at hsh
  rw [hnn] at h96
  rw [hcc] at hc96
  have hfo := formed_any X w u m hu (by omega)
  rw [hf] at hfo
  have hcol := columns_any X w u m hu
  rw [hcc] at hcol
  have hsh' := hid hsh
  have hnn' := hid hnn
  have hcc' := hid hcc
  obtain ⟨ua, uca, rfl, huca, hua⟩ := hu
  have hu : MV (mk X w) (.slice ua m.length uca) m := ⟨ua, uca, rfl, huca, hua⟩
  rw [hnn] at hfo hcol hu ⊢
  clear hf hnn hcc hsh huca hua
  go_enter Tryz.func44, Tryz.ntmps44
  go_wp2_with fail
  refine hfo.mono ?_
  rintro e w1 ⟨rfl, rfl⟩
  go_wp2_with fail
  refine hcol.mono ?_
  rintro e w2 ⟨rfl, rfl⟩
  go_wp2_with fail
  refine (zero_any X w2 c n hX (by omega) (by omega)).mono ?_
  rintro e w3 ⟨hE3, ao, cap, hs, rfl, hM3⟩
  rw [List.length_replicate]
  have hlen : Hid (hs.length = c) := hid (by rw [hM3.len]; simp)
  have hhO : Hd ao c := by have := hM3.outer.hd; rw [hlen.out] at this; exact this
  have hX3 := hX.ext hE3
  have hZ3 := hM3.hz hX3
  have hu3 := hM3.old MV.mono hu hE3 (Nat.le_refl _) (fun _ _ h => h)
  rw [← trN_zero m n c] at hM3
  have hco := copied_any (mz X ao hs) w3 _ m n c hZ3 hu3 hsh'.out hcc'.out (by omega) (by omega)
  clear hfo hcol hu hu3
  go_wp2_with fail
  refine hco.mono ?_
  rintro e w4 ⟨hE4, bo, capb, hs4, rfl, hM4⟩
  have hmc4 := hM4.mc
  rw [hnn'.out] at hmc4 ⊢
  have hM34 := hM3.ext0 hE4
  have hE04 := hE3.trans hE4
  obtain ⟨ba, bca, heq, hbca, hsb⟩ := hmc4
  simp only [Value.slice.injEq] at heq
  obtain ⟨rfl, hx9, rfl⟩ := heq
  clear hx9
  have hhb := hsb.hd
  rw [hnn'.out] at hhb
  obtain ⟨Z, hZe⟩ : ∃ Z, mz X ao hs = Z := ⟨_, rfl⟩
  have hZ' := hid hZe
  rw [hZe] at hsb hZ3
  clear hco hM3 hM4 hZe
  go_wp2_with fail
  go_loopw [20] (fun k wr => ∃ (i : Nat), k = .int .i64 i ∧ i ≤ n ∧ MO X w2.heap.size 33 31 wr ao cap hs (trN m n c i 0) ∧ Sl RC 1 (mk Z wr) bo m ∧ Ext w2 wr) (fun k _ => n - (intOf k).toNat)
  case atStart => exact ⟨0, rfl, Nat.zero_le _, hM34, hsb, hE04⟩
  case round =>
    obtain ⟨i, rfl, hi, hM, hsb, hE⟩ := hrel
    by_cases hlt : i < n
    · have him : i < m.length := by rw [hnn'.out]; exact hlt
      obtain ⟨a1, c1, hX1, hc1, hcl1, hq1⟩ := hsb.row i him
      have k00 := hc1.out noY wr (ExtX.refl _) rfl
      have hxl : Hid (m[i].length = c) := hid (hsh'.out.2 _ (List.getElem_mem _))
      have hei : Hid (∀ j (hj : j < m[i].length), m[i][j] = ent m i j) := hid fun j hj => by
        unfold ent
        rw [show m.getD i [] = m[i] by simp [List.getD_eq_getElem?_getD, him], List.getD_eq_getElem?_getD, List.getElem?_eq_getElem hj]; rfl
      obtain ⟨x, hx⟩ : ∃ x, m[i] = x := ⟨_, rfl⟩
      rw [hx] at k00 hcl1 hq1 hxl hei
      rw [hxl.out] at k00 hcl1
      have hh1 : Hd a1 c := by have := hq1.hd; rw [hxl.out] at this; exact this
      clear hc1 hx
      obtain ⟨wo, hwo⟩ : ∃ wo, wo = wr := ⟨_, rfl⟩
      subst hwo
      go_wp2_with (with_reducible refine up_ix1 slRats (by omega) (by assumption) ?_)
      go_loopw [27] (fun k wr => ∃ (j : Nat), k = .int .i64 j ∧ j ≤ c ∧ MO X w2.heap.size 33 31 wr ao cap hs (trN m n c i j) ∧ Sl QC 3 (mk Z wr) a1 x ∧ Sl RC 1 (mk Z wr) bo m ∧ Ext w2 wr) (fun k _ => c - (intOf k).toNat)
      case atStart => exact ⟨0, rfl, Nat.zero_le _, hM, hq1, hsb, hE⟩
      case round =>
        obtain ⟨j, rfl, hj, hM, hq1, hsb, hE⟩ := hrel
        by_cases hlj : j < c
        · have hjx : j < x.length := by rw [hxl.out]; exact hlj
          have hjh : j < hs.length := by rw [hlen.out]; exact hlj
          have hjt : j < (trN m n c i j).length := by rw [trN_len]; exact hlj
          obtain ⟨a, na, cr, hhd⟩ : ∃ a na cr, hs[j] = (a, na, cr) := ⟨_, _, _, rfl⟩
          have hna : na = n := by
            have := hM.rlen j hjh hjt
            rw [hhd, trN_rlen] at this; exact this
          subst hna
          have hR := hM.row j hjh hjt
          simp only [hhd] at hR
          have hz1 := fun k (hk : ob a k = true) => hM.mz_sub hjh k (by rw [hhd]; exact hk)
          have hsp := fun k (hk : ob a k = true) => hM.sep j hjh k (by rw [hhd]; exact hk)
          have hun : Hid (un (cut (mz X ao hs) a) a = mz X ao hs) := hid (un_cut hz1)
          have hil : i < ((trN m na c i j)[j]).length := by rw [trN_rlen]; exact hlt
          have hda : Hd a na := by have := hR.hd; rw [trN_rlen] at this; exact this
          have hvj := hid (hei.out j hjx)
          have hset9 := hid (trN_set (m := m) (n := na) (c := c) (i := i) (j := j) hjt)
          obtain ⟨v, hv⟩ : ∃ v, ent m i j = v := ⟨_, rfl⟩
          rw [hv] at hvj hset9
          have y1 : wr.cell? (adr ao j) = some (.slice a na cr) := by
            have := (hM.hdr j hjh).1
            rw [hhd] at this; exact this
          have haob : Hid (ob a (adr ao j).block = false) := hid (by
            cases hb : ob a (adr ao j).block
            · rfl
            · have h1 := (hsp _ hb).2
              obtain ⟨b0, o0, rfl⟩ := hhO (by omega)
              simp [ob, adr] at h1)
          have i1 : ∀ W, (Instr.indexAt 23 (.slice ao c cap) (.int .i64 (j : Int))).run Tryz.prog W = .ok (.pointer (some (adr ao j))) W := run_ix1 slRats ao c cap .i64 j hhO (by omega) rfl
          have bx := Bx.new wr #[.bool false, .slice none 0 0, .slice none 0 0] 31
          have hhd' := hid hhd
          clear hhd hv k00
          go_wp2_with (first | (with_reducible refine up_ixn slRat (by omega) (by assumption) ?_) | ((with_reducible show wpList _ _ _ (⟨_, .load 31 _, _, _, _, _⟩ :: _) _ _); refine st_loadElem stRat j hq1 hjx rfl (by simp) QC.agg ?_; intro u5 hu5; rw [hvj.out] at hu5; obtain ⟨s5, a5, n5, c5, d5, k5, e5, rfl⟩ := hu5.shape) | ((with_reducible show wpList _ _ _ (⟨_, .store _ _ _, _, _, _, _⟩ :: _) _ _); refine st_storeBox stRat rfl rfl bx rfl rfl (one3 _ _ _ _ _ _ _) ?_; intro w5 r1 r2))
          have hE5 : Ext wr w5 := ExtX.box ((ExtX.refl wr).alloc _) r2 (Nat.le_refl _)
          obtain ⟨g, o, hg⟩ : ∃ g o, adr a (i * 3) = ⟨g, o, none⟩ := ⟨_, _, rfl⟩
          have i2 : ∀ W, (Instr.indexAt 33 (.slice a na cr) (.int .i64 (i : Int))).run Tryz.prog W = .ok (.pointer (some ⟨g, o, none⟩)) W := by rw [← hg]; exact run_indexAt_adr slRat a na cr .i64 i hda (by omega)
          have hM5 := hM.ext0 hE5
          have hR5 := hR.ext0 QC.elem hE5
          have hu5' := mkx QC.mono hu5 hE5
          have z1 := hE5.cell y1
          have k30 := r1.cell 0 rfl
          have k31 := r1.cell 1 rfl
          have k32 := r1.cell 2 rfl
          obtain ⟨_, v0, v1, v2, _, ⟨g0, f0⟩, ⟨g1, f1⟩, ⟨g2, f2⟩, _⟩ := hR5.cell3 i hil hg
          have hset := hR5.set3 tyRat QC.elem i hil hg (v0 := .bool s5) (v1 := .slice a5 n5 c5) (v2 := .slice d5 k5 e5) (x := v) (by rw [hun.out, hZ'.out]; exact hu5')
          clear y1 bx r1
          go_wp2_with fail
          go_region
          all_goals
            obtain ⟨q1, q2⟩ := hset
            have q2d := q2.drew
            have q1d := q1.ext0 QC.elem ((ExtX.refl (Y := noY) _).drew)
            obtain ⟨w8, hw8⟩ : ∃ w8, (((w5.setCell ⟨g, o, none⟩ (.bool s5)).setCell ⟨g, o + 1, none⟩ (.slice a5 n5 c5)).setCell ⟨g, o + 2, none⟩ (.slice d5 k5 e5)).drew = w8 := ⟨_, rfl⟩
            rw [hw8] at q1d q2d ⊢
            have q2' : ExtX (ob hs[j].1) w5 w8 := by rw [hhd'.out]; exact q2d
            have hM7 := hM5.upd hjh q2' (fun hi' => List.length_set) (by rw [hhd'.out]; exact q1d)
            rw [hset9.out] at hM7
            have hzz : ∀ k, ob a k = true → Z k = true := fun k hk => by rw [← hZ'.out]; exact hz1 k hk
            have hq8 := (hq1.mono QC.mono (mk_ext hE5)).mono QC.mono (mk_mono q2d hzz)
            have hs8 := (hsb.mono RC.mono (mk_ext hE5)).mono RC.mono (mk_mono q2d hzz)
            have hE8 := hM5.ext_from (hE.trans hE5) (Nat.le_refl _) (ExtX.row hjh q2')
            clear z1 k30 k31 k32 g0 g1 g2 f0 f1 f2 i1 i2 hw8 q1 q2
            go_wp2_with fail
            go_roundw
            case rel => exact ⟨j + 1, by go_num, by omega, hM7, hq8, hs8, hE8⟩
            case measure => simp [intOf]; omega
        · have hjc : j = c := by omega
          subst hjc
          rw [trN_next] at hM
          go_wp2_with fail
          go_roundw
          case rel => exact ⟨i + 1, by go_num, by omega, hM, hsb, hE⟩
          case measure => simp [intOf]; omega
    · have hin : i = n := by omega
      subst hin
      rw [trN_full] at hM
      have hmc := hM.mc
      go_wp2_with fail
      go_ret2
      exact ⟨hE, _, rfl, by rw [(trL_shp m i c).1] at hmc; exact hmc⟩
end Go.Proofs.YtjbhcniiioepgaaGreat
