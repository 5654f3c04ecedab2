/- matrix: copied. Conditions: few rows and columns. Elements of rows that a call has made itself: loads. Conditions: none. matrix: eliminate. Conditions: numbers of at most 2^36 digits. matrix: echelon's closure, slices.IndexFunc over it. Conditions: numbers of at most 2^36 digits. Rows exchanged, rows cleared: steps on matrices that a call has made itself. Conditions: none. Matrices whose elimination stays small: those of small numbers, and those that are reduced. Conditions: none. -/
import Derived.Test.YtjbhcniiioepgaaGreatUqP
namespace Go.Lin
/-- The first i of a, the others of b. -/
def mix {α : Type} (a b : List α) (i : Nat) : List α := a.take i ++ b.drop i
theorem mix_len {α : Type} {a b : List α} (h : a.length = b.length) (i : Nat) : (mix a b i).length = a.length := by simp [mix]; omega
theorem mix_zero {α : Type} (a b : List α) : mix a b 0 = b := by simp [mix]
theorem mix_full {α : Type} {a b : List α} {i : Nat} (h1 : a.length ≤ i) (h2 : b.length ≤ i) : mix a b i = a := by simp [mix, List.take_of_length_le h1, List.drop_of_length_le h2]
theorem mix_getElem {α : Type} {a b : List α} (h : a.length = b.length) (i q : Nat) (hq : q < (mix a b i).length) : (mix a b i)[q] = if q < i then a[q]'(by rw [mix_len h] at hq; exact hq) else b[q]'(by rw [mix_len h] at hq; omega) := by
  have hq' := hq
  rw [mix_len h] at hq'
  have hq2 : q < (a.take i ++ b.drop i).length := hq
  show (a.take i ++ b.drop i)[q]'hq2 = _
  rw [List.getElem_append]
  by_cases a1 : q < i
  · rw [dif_pos (by simp; omega), if_pos a1, List.getElem_take]
  · rw [dif_neg (by simp; omega), if_neg a1, List.getElem_drop]
    congr 1
    simp; omega
theorem mix_set {α : Type} {a b : List α} (h : a.length = b.length) {i : Nat} (hi : i < a.length) : (mix a b i).set i a[i] = mix a b (i + 1) := by
  refine List.ext_getElem (by simp [mix_len h]) fun q h1 h2 => ?_
  rw [List.getElem_set]
  split
  · subst_vars; rw [mix_getElem h, if_pos (by omega)]
  · rw [mix_getElem h, mix_getElem h]
    by_cases a1 : q < i
    · rw [if_pos a1, if_pos (by omega)]
    · rw [if_neg a1, if_neg (by omega)]
theorem mix_at {α : Type} {a b : List α} (h : a.length = b.length) {i : Nat} (hi : i < b.length) : (mix a b i).set i b[i] = mix a b i := by
  refine List.ext_getElem (by simp) fun q h1 h2 => ?_
  rw [List.getElem_set]
  split
  · subst_vars; rw [mix_getElem h, if_neg (by omega)]
  · rfl
end Go.Lin
namespace Go.Proofs.YtjbhcniiioepgaaGreat
open Go.RowKit Go.Rep Go.Lim Go.Lin

set_option maxRecDepth 100000 in
set_option maxHeartbeats 800000 in
theorem copied_any (X : Nat → Bool) (w : World) (u : Value) (m : List (List Rat)) (n c : Nat) (hX : HX X w) (hu : MV (mk X w) u m) (hsh : Shp n c m) (hc : colsL m = c) (hn : n ≤ 1000) (hcc : c ≤ 1000) : Calls Tryz.prog 84 #[u] w (MOut X 33 31 w m) := by
  have hcol := columns_any X w u m hu
  obtain ⟨ao0, ca, rfl, hca, hsa⟩ := hu
  have hha := hsa.hd
  rw [hc] at hcol
  have hml := hid hsh.1
  have hrl := hid hsh.2
  rw [hml.out] at hca hha hcol ⊢
  obtain ⟨A, hA⟩ : ∃ A, List.replicate n (List.replicate c (0 : Rat)) = A := ⟨_, rfl⟩
  have hAl : Hid (A.length = n) := hid (by rw [← hA]; simp)
  have hAi : Hid (∀ i (hi : i < A.length), A[i] = List.replicate c (0 : Rat)) := hid fun i hi => by subst hA; simp
  have hmA : Hid (m.length = A.length) := hid (by rw [hml.out, hAl.out])
  have hz0 := zero_any X w n c hX hn hcc
  rw [hA] at hz0
  clear hA hsh hc
  go_enter Tryz.func84, Tryz.ntmps84
  go_wp2_with fail
  refine hcol.mono ?_
  rintro e w1 ⟨rfl, rfl⟩
  go_wp2_with fail
  refine hz0.mono ?_
  rintro e w2 ⟨hE2, ao, cap, hs, rfl, hM2⟩
  rw [hAl.out]
  have hlen := hid (hM2.len.trans hAl.out)
  have hcap : n ≤ cap := by have := hM2.capLen; rw [hAl.out] at this; exact this
  have hhO : Hd ao n := by have := hM2.outer.hd; rw [hlen.out] at this; exact this
  have hrl2 : Hid (∀ i (hi : i < hs.length), hs[i].2.1 = c) := hid fun i hi => by
    have h1 : i < A.length := by rw [hAl.out, ← hlen.out]; exact hi
    rw [hM2.rlen i hi h1, hAi.out i h1]; simp
  clear hcol hz0
  go_wp2_with fail
  go_loopw [15] (fun k wr => ∃ (i : Nat), k = .int .i64 i ∧ i ≤ n ∧ MO X w1.heap.size 33 31 wr ao cap hs (mix m A i) ∧ Ext w1 wr) (fun k _ => n - (intOf k).toNat)
  case atStart => exact ⟨0, rfl, Nat.zero_le _, by rw [mix_zero]; exact hM2, hE2⟩
  case round =>
    obtain ⟨i, rfl, hi, hM, hE⟩ := hrel
    by_cases hlt : i < n
    · have him : i < m.length := by rw [hml.out]; exact hlt
      have hiA : i < A.length := by rw [hAl.out]; exact hlt
      have hih : i < hs.length := by rw [hlen.out]; exact hlt
      obtain ⟨a1, c1, hX1, hc1, hcl1, hq1⟩ := hsa.row i him
      have k00 := hc1.out noY wr hE rfl
      obtain ⟨x, hx⟩ : ∃ x, m[i] = x := ⟨_, rfl⟩
      obtain ⟨z, hz⟩ : ∃ z, A[i] = z := ⟨_, rfl⟩
      rw [hx] at k00 hcl1 hq1
      have hxl : Hid (x.length = c) := hid (by rw [← hx]; exact hrl.out _ (List.getElem_mem _))
      have hzl : Hid (z.length = c) := hid (by rw [← hz, hAi.out i hiA]; simp)
      have hxz : Hid (x.length = z.length) := hid (by rw [hxl.out, hzl.out])
      rw [hxl.out] at k00 hcl1
      have hst : Hid ((mix m A i).set i z = mix m A i) := hid (by rw [← hz]; exact mix_at hmA.out hiA)
      have hfin : Hid ((mix m A i).set i x = mix m A (i + 1)) := hid (by rw [← hx]; exact mix_set hmA.out him)
      have hmi : Hid (i < (mix m A i).length) := hid (by rw [mix_len hmA.out]; exact him)
      have hh1 : Hd a1 c := by have := hq1.hd; rw [hxl.out] at this; exact this
      have hrow : RV (mk X w1) (.slice a1 c c1) x := ⟨a1, c1, by rw [hxl.out], by rw [hxl.out]; exact hcl1, hq1⟩
      obtain ⟨a, na, cr, hhd⟩ : ∃ a na cr, hs[i] = (a, na, cr) := ⟨_, _, _, rfl⟩
      have hna : na = c := by have := hrl2.out i hih; rw [hhd] at this; exact this
      subst hna
      have hhd' := hid hhd
      rw [← hst.out] at hM
      have hM' : MO X w1.heap.size 33 31 wr ao cap hs ((mix m A i).set i (mix x z 0)) := by rw [mix_zero]; exact hM
      clear hx hz hc1 hq1 hhd hM
      obtain ⟨wo, hwo⟩ : ∃ wo, wo = wr := ⟨_, rfl⟩
      subst hwo
      go_wp2_with (with_reducible refine up_ix1 slRats (by omega) (by assumption) ?_)
      go_loopw [22] (fun k wr => ∃ (j : Nat), k = .int .i64 j ∧ j ≤ na ∧ MO X w1.heap.size 33 31 wr ao cap hs ((mix m A i).set i (mix x z j)) ∧ Ext w1 wr) (fun k _ => na - (intOf k).toNat)
      case atStart => exact ⟨0, rfl, Nat.zero_le _, hM', hE⟩
      case round =>
        obtain ⟨j, rfl, hj, hM, hE⟩ := hrel
        by_cases hlj : j < na
        · have hjx : j < x.length := by rw [hxl.out]; exact hlj
          have hXr : HX X wr := hX.ext hE
          have hXz := hM.hz hXr
          have hsr : Sl QV 3 (mk (mz X ao hs) wr) a1 x := by
            obtain ⟨_, _, heq, _, h3⟩ := hM.old RV.mono hrow hE (Nat.le_refl _) (fun _ _ h => h)
            simp only [Value.slice.injEq] at heq
            obtain ⟨rfl, _, rfl⟩ := heq
            exact h3
          have hmx : Hid (i < ((mix m A i).set i (mix x z j)).length) := hid (by rw [List.length_set]; exact hmi.out)
          have hjl : Hid ((mix x z j).length = na) := hid (by rw [mix_len hxz.out, hxl.out])
          have hOr := hM.row i hih hmx.out
          rw [List.getElem_set_self] at hOr
          simp only [hhd'.out] at hOr
          have hda : Hd a na := by have := hOr.hd; rw [hjl.out] at this; exact this
          have hun : Hid (un (cut (mz X ao hs) a) a = mz X ao hs) := hid (un_cut fun k hk => by have := hM.mz_sub hih k; rw [hhd'.out] at this; exact this hk)
          have hbsep : Hid (ob a (adr ao i).block = false) := hid (by
            cases hb : ob a (adr ao i).block
            · rfl
            · have h1 := (hM.sep i hih (adr ao i).block (by rw [hhd'.out]; exact hb)).2
              obtain ⟨b0, o0, rfl⟩ := hhO (by omega)
              simp [ob, adr] at h1)
          have hbnew : Hid (ob a wr.heap.size = false) := hid (hOr.ob_ge (Nat.le_refl _))
          obtain ⟨g, o, hg⟩ : ∃ g o, adr a (j * 3) = ⟨g, o, none⟩ := ⟨_, _, rfl⟩
          have i2 : ∀ W, (Instr.indexAt 23 (.slice ao n cap) (.int .i64 (i : Int))).run Tryz.prog W = .ok (.pointer (some (adr ao i))) W := run_ix1 slRats ao n cap .i64 i hhO (by omega) rfl
          have i3 : ∀ W, (Instr.indexAt 33 (.slice a na cr) (.int .i64 (j : Int))).run Tryz.prog W = .ok (.pointer (some ⟨g, o, none⟩)) W := by rw [← hg]; exact run_indexAt_adr slRat a na cr .i64 j hda (by omega)
          have bx := Bx.new wr #[.bool false, .slice none 0 0, .slice none 0 0] 31
          obtain ⟨Z, hZ⟩ : ∃ Z, mz X ao hs = Z := ⟨_, rfl⟩
          have hZ' := hid hZ
          rw [hZ] at hXz hsr hOr hun
          have hjs : Hid ((mix x z j).set j x[j] = mix x z (j + 1)) := hid (mix_set hxz.out hjx)
          have hadd0 : Hid (x[j] + 0 = x[j]) := hid (Rat.add_zero _)
          have hhdr := (hM.hdr i hih).1
          rw [hhd'.out] at hhdr
          dsimp only at hhdr
          clear hZ k00
          go_wp2_with (first | (with_reducible refine up_ixn slRat (by omega) (by assumption) ?_) | ((with_reducible show wpList _ _ _ (⟨_, .load _ _, _, _, _, _⟩ :: _) _ _); refine st_loadElem stRat j hsr hjx rfl (by simp) QV.agg ?_; intro u5 hu5; obtain ⟨s5, a5, n5, c5, d5, k5, e5, rfl⟩ := hu5.shape) | ((with_reducible show wpList _ _ _ (⟨_, .store _ _ _, _, _, _, _⟩ :: _) _ _); refine st_storeBox stRat rfl rfl bx rfl rfl (one3 _ _ _ _ _ _ _) ?_; intro w5 r1 r2))
          have hE5 : Ext wr w5 := ExtX.box ((ExtX.refl wr).alloc _) r2 (Nat.le_refl _)
          have hEd : Ext w5 w5.drew := (ExtX.refl w5).drew
          have hM5 := hM.ext0 hE5
          have hO5 := hOr.ext0 QC.elem hE5
          have hx5 : QV (mk Z w5.drew) (.agg #[.bool s5, .slice a5 n5 c5, .slice d5 k5 e5]) x[j] := mkx QV.mono hu5 (hE5.trans hEd)
          have h00 : QV (mk Z w5.drew) (.agg #[.bool false, .slice none 0 0, .slice none 0 0]) 0 := (QC.zero _).qv (by rw [hq_zero]; decide)
          have hXd : HX Z w5.drew := hXz.ext (hE5.trans hEd)
          have hS : Hid (∀ Y W', ExtX Y w5.drew W' → Y (adr ao i).block = false → Y wr.heap.size = false → W'.cell? (adr ao i) = some (.slice a na cr) ∧ W'.cell? ⟨wr.heap.size, 0, none⟩ = some (.bool s5) ∧ W'.cell? ⟨wr.heap.size, 1, none⟩ = some (.slice a5 n5 c5) ∧ W'.cell? ⟨wr.heap.size, 2, none⟩ = some (.slice d5 k5 e5)) := hid fun Y W' h hy1 hy2 => by
            have b1 := (r1.ext0 hEd).ext h hy2
            exact ⟨h.cellY ((hE5.trans hEd).cell hhdr) hy1, b1.cell 0 rfl, b1.cell 1 rfl, b1.cell 2 rfl⟩
          obtain ⟨k20, k30, k31, k32⟩ := hS.out noY w5.drew (ExtX.refl _) rfl rfl
          obtain ⟨bw, hbw⟩ : ∃ bw, wr.heap.size = bw := ⟨_, rfl⟩
          rw [hbw] at hS k30 k31 k32 hbnew ⊢
          clear hhdr r1 bx
          go_wp2_with fail
          go_region_held3 (fun w' => w'.cell? (adr ao i) = some (.slice a na cr) ∧ w'.cell? ⟨bw, 0, none⟩ = some (.bool s5) ∧ w'.cell? ⟨bw, 1, none⟩ = some (.slice a5 n5 c5) ∧ w'.cell? ⟨bw, 2, none⟩ = some (.slice d5 k5 e5))
            (first | exact hS.out noY _ t1 rfl rfl | exact hS.out (ob a) _ ((ExtX.of t1).trans hset.2) hbsep.out hbnew.out | go_keep)
            ((go_at_call 110; (with_reducible refine (qadd Z w5.drew _ _ _ 0 hXd hx5 h00).mono ?_); rintro ee w6 ⟨t1, u6, rfl, hu6⟩; obtain ⟨s6, a6, n6, c6, d6, k6, e6, rfl⟩ := hu6.shape; rw [hadd0.out] at hu6; have hO6 := hO5.ext0 QC.elem (hEd.trans t1); obtain ⟨_, v0, v1, v2, _, ⟨g0, f0⟩, ⟨g1, f1⟩, ⟨g2, f2⟩, _⟩ := hO6.cell3 j (by rw [hjl.out]; exact hlj) hg; have hset := hO6.set3 tyRat QC.elem j (by rw [hjl.out]; exact hlj) hg (v0 := .bool s6) (v1 := .slice a6 n6 c6) (v2 := .slice d6 k6 e6) (x := x[j]) (by rw [hun.out]; exact hu6)))
          obtain ⟨q1, q2⟩ := hset
          rw [hjs.out] at q1
          have q2' : ExtX (ob hs[i].1) w6 (((w6.setCell ⟨g, o, none⟩ (.bool s6)).setCell ⟨g, o + 1, none⟩ (.slice a6 n6 c6)).setCell ⟨g, o + 2, none⟩ (.slice d6 k6 e6)) := by rw [hhd'.out]; exact q2
          have hM6 := hM5.ext0 (hEd.trans t1)
          have hM7 := hM6.upd hih (l := mix x z (j + 1)) q2' (fun hi' => by rw [List.getElem_set_self, mix_len hxz.out, mix_len hxz.out]) (by rw [hZ'.out, hhd'.out]; exact q1)
          rw [List.set_set] at hM7
          have hE7 := hM6.ext_from ((hE.trans hE5).trans (hEd.trans t1)) (Nat.le_refl _) (ExtX.row hih q2')
          clear k20 k30 k31 k32 g0 g1 g2 f0 f1 f2 i2 i3
          go_wp2_with fail
          go_roundw
          case rel => exact ⟨j + 1, by go_num, by omega, hM7, hE7⟩
          case measure => simp [intOf]; omega
        · have hjn : j = na := by omega
          subst hjn
          rw [mix_full (a := x) (b := z) (by rw [hxl.out]; exact Nat.le_refl _) (by rw [hzl.out]; exact Nat.le_refl _), hfin.out] at hM
          go_wp2_with fail
          go_roundw
          case rel => exact ⟨i + 1, by go_num, by omega, hM, hE⟩
          case measure => simp [intOf]; omega
    · have hin : i = n := by omega
      subst hin
      rw [mix_full (by rw [hml.out]; exact Nat.le_refl _) (by rw [hAl.out]; exact Nat.le_refl _)] at hM
      go_wp2_with fail
      go_ret
      exact ⟨hE, ao, cap, hs, by rw [hml.out]; rfl, hM⟩
end Go.Proofs.YtjbhcniiioepgaaGreat

namespace Go.Rep
open Go.RowKit Go.Lim
section
variable {P : Program} {ops : Array Oper} {Q : Exit → Act → World → Prop} {rest : List Oper} {a : Act} {w : World}
variable {α : Type} {R : Mem → Value → α → Prop} {sz : Nat} {X : Nat → Bool} {base : Nat} {e : TypeId} {ao : Option Addr} {cap : Nat} {l : List α}
variable {d : Option Tmp} {ty : TypeId} {ps : String} {af : Array Edge}
theorem st_loadOL {t : TypeId} {x : Operand} {k : Nat} (hT : StructT P t sz) (i : Nat) (h : OL R sz X base e w ao cap l) (hi : i < l.length) (hx : a.eval x = .pointer (some (adr ao k))) (hk : k = i * sz) (hag : ∀ h u y, R h u y → ∃ cs, u = .agg cs)
    (K : ∀ u, R (mk (un X ao) w) u l[i] → wpList P ops Q rest (a.put d u) w) :
    wpList P ops Q (⟨d, .load t x, ty, ps, af, none⟩ :: rest) a w := by
  refine wpList_plain rfl fun K' hK' => ?_
  subst hk
  obtain ⟨fs, ti, h1, h2, h3⟩ := hT
  obtain ⟨us, p1, p2, _, p3, p5⟩ := h.cells
  have hi' : i < us.length := by omega
  have h6 := p5 i hi' hi
  obtain ⟨cs, hcs⟩ := hag _ _ _ h6
  have hsz : cs.toList.length = sz := by have := p2 us[i] (List.getElem_mem _); rw [hcs] at this; simpa [Value.cells] using this
  have hl := run_loadCells_list (P := P) w (adr ao (i * sz)) cs.toList (fun j v hj => by
    rw [adr_add]
    have hj1 : j < sz := by rw [← hsz]; exact (List.getElem?_eq_some_iff.1 hj).1
    have hget := flat_get us i j hi' p2 hj1
    rw [hcs] at hget
    have hj2 : (cellsL (.agg cs))[j]? = some v := by simpa [cellsL, Value.cells] using hj
    rw [hj2] at hget
    exact (p3 _ _ hget).1)
  rw [hsz] at hl
  unfold Oper.wp
  simp [execOp, hx, Instr.loadAt, Instr.sureAddr, loadVar, isAgg, run_underlying h1, sizeOf, typeInfo, h2, h3, hl, Result.andThen]
  rw [hcs] at h6
  exact hK' _ _ (K _ h6)
end
/-- The struct at an element's address, now and in all worlds behind that leave the list's block. -/
theorem OL.rat {R : Mem → Value → Rat → Prop} (hR : Shaped R) {X : Nat → Bool} {base : Nat} {e : TypeId} {w : World} {ao : Option Addr} {cap : Nat} {l : List Rat} (h : OL R 3 X base e w ao cap l) (i : Nat) (hi : i < l.length) :
    ∃ g o sg a n c d k e, adr ao (i * 3) = ⟨g, o, none⟩ ∧ ob ao g = true ∧ Hid (∀ Y W', ExtX Y w W' → Y g = false → W'.cell? ⟨g, o, none⟩ = some (.bool sg) ∧ W'.cell? ⟨g, o + 1, none⟩ = some (.slice a n c) ∧ W'.cell? ⟨g, o + 2, none⟩ = some (.slice d k e)) ∧ R (mk (un X ao) w) (.agg #[.bool sg, .slice a n c, .slice d k e]) l[i] := by
  obtain ⟨b0, o0, hb0⟩ := h.hd (by omega)
  have hg : adr ao (i * 3) = ⟨b0, o0 + i * 3, none⟩ := by rw [hb0]; rfl
  obtain ⟨u, v0, v1, v2, hu, ⟨h0, _⟩, ⟨h1, _⟩, ⟨h2, _⟩, h3⟩ := h.cell3 i hi hg
  obtain ⟨sg, a, n, c, d, k, e, rfl⟩ := hR _ _ _ h3
  simp only [cellsL, Value.cells, List.cons.injEq, and_true] at hu
  obtain ⟨rfl, rfl, rfl⟩ := hu
  exact ⟨_, _, sg, a, n, c, d, k, e, hg, by rw [hb0]; simp [ob], hid fun Y W' hE hY => ⟨hE.cellY h0 hY, hE.cellY h1 hY, hE.cellY h2 hY⟩, h3⟩
end Go.Rep

namespace Go.Proofs.YtjbhcniiioepgaaGreat
open Go.RowKit Go.Rep Go.Lim Go.Lin

/-- One row was eliminated; nothing else was turned. -/
def EOut (Z : Nat → Bool) (base : Nat) (e : TypeId) (w : World) (a : Option Addr) (cap : Nat) (l : List Rat) (ee : Ending) (w' : World) : Prop := ee = .returned (.tuple #[]) ∧ ExtX (ob a) w w' ∧ OL QC 3 (cut Z a) base e w' a cap l

set_option maxRecDepth 100000 in
set_option maxHeartbeats 1600000 in
theorem eliminate_any (Z : Nat → Bool) (base : Nat) (w : World) (a1 a2 : Option Addr) (c1 c2 n col : Nat) (row piv : List Rat) (hX : HX Z w) (h1 : OL QC 3 (cut Z a1) base 31 w a1 c1 row) (h2 : OL QC 3 (cut Z a2) base 31 w a2 c2 piv)
    (hz1 : ∀ k, ob a1 k = true → Z k = true) (hz2 : ∀ k, ob a2 k = true → Z k = true) (hdis : ∀ k, ob a1 k = true → ob a2 k = false) (hl1 : row.length = n) (hl2 : piv.length = n) (hn : n ≤ 1000) (hcol : col < n)
    (hb1 : BR 68719476736 row) (hb2 : BR 68719476736 piv) (hb3 : hq (row.getD col 0 / piv.getD col 0) ≤ 68719476736) (hb4 : ∀ x ∈ piv, hq (row.getD col 0 / piv.getD col 0 * x) ≤ 68719476736) :
    Calls Tryz.prog 136 #[.slice a1 n c1, .slice a2 n c2, .int .i64 (col : Int)] w (EOut Z base 31 w a1 c1 (elimL row piv col)) := by
  have hu1 := hid (un_cut hz1)
  have hu2 := hid (un_cut hz2)
  have hdis2 : ∀ k, ob a2 k = true → ob a1 k = false := fun k hk => by
    cases hb : ob a1 k
    · rfl
    · rw [hdis k hb] at hk; simp at hk
  have hd1 : Hd a1 n := by have := h1.hd; rw [hl1] at this; exact this
  have hd2 : Hd a2 n := by have := h2.hd; rw [hl2] at this; exact this
  have hc1r : col < row.length := by omega
  have hc2r : col < piv.length := by omega
  have g1 : Hid (row.getD col 0 = row[col]) := hid (by simp [List.getD_eq_getElem?_getD, hc1r])
  have g2 : Hid (piv.getD col 0 = piv[col]) := hid (by simp [List.getD_eq_getElem?_getD, hc2r])
  obtain ⟨E, hE⟩ : ∃ E, elimL row piv col = E := ⟨_, rfl⟩
  have hEl : Hid (E.length = n) := hid (by rw [← hE, elimL_len _ _ _ (by omega)]; exact hl2)
  have hEi : Hid (∀ j (hj : j < row.length) (hj2 : j < piv.length) (hj3 : j < E.length), E[j] = row[j] - (row.getD col 0 / piv.getD col 0) * piv[j]) := hid fun j hj hj2 hj3 => by subst hE; simp [elimL]
  have hE0 : Hid (row.getD col 0 / piv.getD col 0 = 0 → E = row) := hid fun h => by rw [← hE]; exact elimL_zero _ _ _ (by omega) h
  have hrE : Hid (E.length = row.length) := hid (by rw [hEl.out, hl1])
  have hl1' := hid hl1
  have hl2' := hid hl2
  have hb1' := hid hb1
  have hb2' := hid hb2
  obtain ⟨f, hf⟩ : ∃ f, row.getD col 0 / piv.getD col 0 = f := ⟨_, rfl⟩
  rw [hf] at hb3 hE0 hEi hb4
  have hb3' := hid hb3
  have hb4' := hid hb4
  have hff : Hid (row[col] / piv[col] = f) := hid (by rw [← g1.out, ← g2.out]; exact hf)
  rw [hE]
  obtain ⟨gg1, oo1, s1, p1, n1, q1, d1, k1, e1, hg1, hog1, hcc1, hr1⟩ := h1.rat QC.shaped col hc1r
  obtain ⟨gg2, oo2, s2, p2, n2, q2, d2, k2, e2, hg2, hog2, hcc2, hr2⟩ := h2.rat QC.shaped col hc2r
  rw [hu1.out] at hr1
  rw [hu2.out] at hr2
  have i1 : ∀ W, (Instr.indexAt 33 (.slice a1 n c1) (.int .i64 (col : Int))).run Tryz.prog W = .ok (.pointer (some ⟨gg1, oo1, none⟩)) W := by rw [← hg1]; exact run_indexAt_adr slRat a1 n c1 .i64 col hd1 hcol
  have i2 : ∀ W, (Instr.indexAt 33 (.slice a2 n c2) (.int .i64 (col : Int))).run Tryz.prog W = .ok (.pointer (some ⟨gg2, oo2, none⟩)) W := by rw [← hg2]; exact run_indexAt_adr slRat a2 n c2 .i64 col hd2 hcol
  have hEd : Ext w w.drew := (ExtX.refl w).drew
  have hS : Hid (∀ Y W', ExtX Y w.drew W' → Y gg1 = false → Y gg2 = false → W'.cell? ⟨gg1, oo1, none⟩ = some (.bool s1) ∧ W'.cell? ⟨gg1, oo1 + 1, none⟩ = some (.slice p1 n1 q1) ∧ W'.cell? ⟨gg1, oo1 + 2, none⟩ = some (.slice d1 k1 e1) ∧ W'.cell? ⟨gg2, oo2, none⟩ = some (.bool s2) ∧ W'.cell? ⟨gg2, oo2 + 1, none⟩ = some (.slice p2 n2 q2) ∧ W'.cell? ⟨gg2, oo2 + 2, none⟩ = some (.slice d2 k2 e2)) := hid fun Y W' h hy1 hy2 => by
    have z1 := hcc1.out Y W' ((ExtX.of hEd).trans h) hy1
    have z2 := hcc2.out Y W' ((ExtX.of hEd).trans h) hy2
    exact ⟨z1.1, z1.2.1, z1.2.2, z2.1, z2.2.1, z2.2.2⟩
  obtain ⟨k00, k01, k02, k10, k11, k12⟩ := hS.out noY w.drew (ExtX.refl _) rfl rfl
  have hlt1 : gg1 < w.heap.size := cell_lt k00
  have hlt2 : gg2 < w.heap.size := cell_lt k10
  have hXd : HX Z w.drew := hX
  have hx1 : QV (mk Z w.drew) (.agg #[.bool s1, .slice p1 n1 q1, .slice d1 k1 e1]) row[col] := hr1.qv (hb1'.out _ (List.getElem_mem _))
  have hx2 : QV (mk Z w.drew) (.agg #[.bool s2, .slice p2 n2 q2, .slice d2 k2 e2]) piv[col] := hr2.qv (hb2'.out _ (List.getElem_mem _))
  obtain ⟨ec, hec⟩ : ∃ ec, e5 (decide (piv[col] = 0)) = ec := ⟨_, rfl⟩
  have qd := qdiv Z w.drew _ _ _ _ hXd hx1 hx2
  rw [hec, hff.out] at qd
  have hEA : Ext w.drew (w.alloc (.cells #[.bool false, .slice none 0 0, .slice none 0 0] 31)).drew := ⟨rfl, rfl, rfl, ((ExtX.refl (Y := noY) w).alloc _).size, ((ExtX.refl (Y := noY) w).alloc _).block⟩
  have bA : Bx (w.alloc (.cells #[.bool false, .slice none 0 0, .slice none 0 0] 31)).drew w.heap.size #[.bool false, .slice none 0 0, .slice none 0 0] 31 := Bx.new w _ _
  have hEA2 : Ext w (w.alloc (.cells #[.bool false, .slice none 0 0, .slice none 0 0] 31)).drew := hEd.trans hEA
  have hXA : HX (un Z (some ⟨w.heap.size, 0, none⟩)) (w.alloc (.cells #[.bool false, .slice none 0 0, .slice none 0 0] 31)).drew := fun k hk => by
    have h9 : (w.alloc (.cells #[.bool false, .slice none 0 0, .slice none 0 0] 31)).drew.heap.size = w.heap.size + 1 := by show (w.alloc _).heap.size = _; simp
    rw [h9]
    by_cases hz : Z k = true
    · have := hX k hz; omega
    · have : w.heap.size = k := by simpa [un, hz, ob] using hk
      omega
  have hnewb : ∀ j, j < w.heap.size → ob (some ⟨w.heap.size, 0, none⟩) j = false := fun j hj => ob_other (by omega)
  have qdA := qdiv (un Z (some ⟨w.heap.size, 0, none⟩)) (w.alloc (.cells #[.bool false, .slice none 0 0, .slice none 0 0] 31)).drew _ _ _ _ hXA (old_un (w := w) QV.mono hx1 hEA2 hnewb) (old_un (w := w) QV.mono hx2 hEA2 hnewb)
  rw [hec, hff.out] at qdA
  clear hg1 hg2 hcc1 hcc2 hr1 hr2 hf hE hl1 hl2 hb1 hb2 hb3 hb4 hec
  go_enter Tryz.func136, Tryz.ntmps136
  go_upto_region 0 with (fail)
  go_cut [6, 7] from 10 to 21 (fun b6 _ wx => ∃ bf s a n' c d k e, b6 = .pointer (some ⟨bf, 0, none⟩) ∧ Bx wx bf #[.bool s, .slice a n' c, .slice d k e] 31 ∧ w.heap.size ≤ bf ∧ QC (mk Z wx) (.agg #[.bool s, .slice a n' c, .slice d k e]) f ∧ Ext w wx)
  case first =>
    go_region_held3 (fun w' => w'.cell? ⟨gg1, oo1, none⟩ = some (.bool s1) ∧ w'.cell? ⟨gg1, oo1 + 1, none⟩ = some (.slice p1 n1 q1) ∧ w'.cell? ⟨gg1, oo1 + 2, none⟩ = some (.slice d1 k1 e1) ∧ w'.cell? ⟨gg2, oo2, none⟩ = some (.bool s2) ∧ w'.cell? ⟨gg2, oo2 + 1, none⟩ = some (.slice p2 n2 q2) ∧ w'.cell? ⟨gg2, oo2 + 2, none⟩ = some (.slice d2 k2 e2))
      (first | exact hS.out noY _ t1 rfl rfl | exact hS.out noY _ (ExtX.alloc t1 _) rfl rfl | exact hS.out noY _ hEA rfl rfl | exact hS.out noY _ (hEA.trans t2) rfl rfl | exact hS.out (ob (some ⟨w.heap.size, 0, none⟩)) _ ((ExtX.of (hEA.trans t2)).trans hst.2) (ob_other (by omega)) (ob_other (by omega)) | exact hS.out (ob (some ⟨w6.heap.size, 0, none⟩)) _ ((ExtX.of (t1.alloc _)).trans hst.2) (ob_other (by have := t1.size; have h9 : w.drew.heap.size = w.heap.size := rfl; omega)) (ob_other (by have := t1.size; have h9 : w.drew.heap.size = w.heap.size := rfl; omega)) | go_keep)
      (first | (go_at_call 135; (with_reducible refine qd.mono ?_); rintro ee w6 ⟨t1, u6, rfl, hu6⟩; obtain ⟨s6, a6, n6, c6, d6, k6, e6, rfl⟩ := hu6.shape; have hst := (Bx.new w6 #[.bool false, .slice none 0 0, .slice none 0 0] 31).set3 (.bool s6) (.slice a6 n6 c6) (.slice d6 k6 e6)) | (go_at_call 135; (with_reducible refine qdA.mono ?_); rintro ee w6 ⟨t2, u6, rfl, hu6⟩; obtain ⟨s6, a6, n6, c6, d6, k6, e6, rfl⟩ := hu6.shape; have bb := bA.ext0 t2; have y0 := bb.cell 0 rfl; have y1 := bb.cell 1 rfl; have y2 := bb.cell 2 rfl; have z0 := bb.frozen 0; have z1 := bb.frozen 1; have z2 := bb.frozen 2; have hst := bb.set3 (.bool s6) (.slice a6 n6 c6) (.slice d6 k6 e6)))
    · clear k00 k01 k02 k10 k11 k12
      go_wp2_with fail
      go_meet
      case rel => exact ⟨w6.heap.size, _, _, _, _, _, _, _, rfl, Bx.new w6 _ _, (hEd.trans t1).size, QC.mono _ _ _ _ (mk_ext ((ExtX.refl w6).alloc _)) hu6, (hEd.trans t1).alloc _⟩
    · have hq7 := QC.mono _ _ _ _ (mk_sub (X := Z) fun k _ hk => un_left hk) (QC.mono _ _ _ _ (mk_mono hst.2 fun k hk => un_right hk) hu6)
      have hE7 : Ext w _ := ExtX.box (hEA2.trans t2) hst.2 (Nat.le_refl _)
      clear k00 k01 k02 k10 k11 k12 y0 y1 y2 z0 z1 z2
      go_wp2_with fail
      go_meet
      case rel => exact ⟨w.heap.size, _, _, _, _, _, _, _, rfl, hst.1, Nat.le_refl _, hq7, hE7⟩
  case rest =>
    obtain ⟨bf, sf, af, nf, cf, df, kf, ef, rfl, b6, hbf, hqf, hEw⟩ := hcut
    clear k00 k01 k02 k10 k11 k12 i1 i2 qd qdA hS bA hEA hEA2
    have hXc := hX.ext hEw
    have h1c := h1.ext0 QC.elem hEw
    have h2c := h2.ext0 QC.elem hEw
    have f0 := b6.cell 0 rfl
    have f1 := b6.cell 1 rfl
    have f2 := b6.cell 2 rfl
    have hqv := hqf.qv hb3'.out
    by_cases h0 : f = 0
    · have hr := hid (hE0.out h0)
      have hs0 : Hid (f.num.sign = 0) := hid (by rw [h0]; rfl)
      clear h0
      go_wp2_with fail
      refine (qsign Z wc _ f hXc hqv).mono ?_
      rintro e w7 ⟨hE7, rfl⟩
      rw [hs0.out]
      clear f0 f1 f2
      go_wp2_with fail
      refine bodyPost_ret (results_none rfl _ _ _) rfl ?_
      exact ⟨rfl, ExtX.of (hEw.trans hE7), by rw [hr.out]; exact h1c.ext0 QC.elem hE7⟩
    · have hs0 : ((f.num.sign : Int) == 0) = false := beqF (by intro h; exact h0 (Rat.num_eq_zero.1 (Int.sign_eq_zero_iff_zero.1 h)))
      clear h0
      go_wp2_with fail
      refine (qsign Z wc _ f hXc hqv).mono ?_
      rintro e w7 ⟨hE7, rfl⟩
      have b7 := b6.ext0 hE7
      have hqf7 := mkx QV.mono hqv hE7
      have hE07 := hEw.trans hE7
      have h17 := h1c.ext0 QC.elem hE7
      have h27 := h2c.ext0 QC.elem hE7
      clear f0 f1 f2 b6
      go_wp2_with fail
      go_loopw [27] (fun k wr => ∃ (j : Nat), k = .int .i64 j ∧ j ≤ n ∧ OL QC 3 (cut Z a1) base 31 wr a1 c1 (mix E row j) ∧ OL QC 3 (cut Z a2) base 31 wr a2 c2 piv ∧ Bx wr bf #[.bool sf, .slice af nf cf, .slice df kf ef] 31 ∧ QV (mk Z wr) (.agg #[.bool sf, .slice af nf cf, .slice df kf ef]) f ∧ ExtX (ob a1) w wr) (fun k _ => n - (intOf k).toNat)
      case atStart => exact ⟨0, rfl, Nat.zero_le _, by rw [mix_zero]; exact h17, h27, b7, hqf7, ExtX.of hE07⟩
      case round =>
        obtain ⟨j, rfl, hj, hO1, hO2, b7, hqf7, hE⟩ := hrel
        have hXr := hX.ext hE
        by_cases hlj : j < n
        · have hjr : j < row.length := by rw [hl1'.out]; exact hlj
          have hjp : j < piv.length := by rw [hl2'.out]; exact hlj
          have hjE : j < E.length := by rw [hEl.out]; exact hlj
          have hml : Hid ((mix E row j).length = n) := hid (by rw [mix_len hrE.out, hEl.out])
          have hjm : j < (mix E row j).length := by rw [hml.out]; exact hlj
          have hmg : Hid ((mix E row j)[j] = row[j]) := hid (by rw [mix_getElem hrE.out, if_neg (by omega)])
          have hjs : Hid ((mix E row j).set j E[j] = mix E row (j + 1)) := hid (mix_set hrE.out hjE)
          have hEj : Hid (row[j] - f * piv[j] = E[j]) := hid (hEi.out j hjr hjp hjE).symm
          have hbp := hid (hb2'.out piv[j] (List.getElem_mem _))
          have hbr := hid (hb1'.out row[j] (List.getElem_mem _))
          have hbm := hid (hb4'.out piv[j] (List.getElem_mem _))
          obtain ⟨x, hx⟩ : ∃ x, piv[j] = x := ⟨_, rfl⟩
          obtain ⟨y, hy⟩ : ∃ y, row[j] = y := ⟨_, rfl⟩
          obtain ⟨v, hv⟩ : ∃ v, E[j] = v := ⟨_, rfl⟩
          obtain ⟨r, hr⟩ : ∃ r, mix E row j = r := ⟨_, rfl⟩
          obtain ⟨gg, oo, sg, ap, np, cp, dp, kp, ep, hg, hog, hcc, hrr⟩ := hO1.rat QC.shaped j hjm
          rw [hmg.out, hy, hu1.out] at hrr
          rw [hx, hy, hv] at hEj
          rw [hx] at hbp hbm
          rw [hy] at hbr
          rw [hv, hr] at hjs
          rw [hr] at hO1 hjm hml
          have hxp := hid hx
          have i1 : ∀ W, (Instr.indexAt 33 (.slice a1 n c1) (.int .i64 (j : Int))).run Tryz.prog W = .ok (.pointer (some ⟨gg, oo, none⟩)) W := by rw [← hg]; exact run_indexAt_adr slRat a1 n c1 .i64 j hd1 (by omega)
          have bx := Bx.new wr #[.bool false, .slice none 0 0, .slice none 0 0] 31
          clear hx hy hv hr hmg
          go_wp2_with (first | (with_reducible refine up_ixn slRat (by omega) (by assumption) ?_) | ((with_reducible show wpList _ _ _ (⟨_, .load _ _, _, _, _, _⟩ :: _) _ _); refine st_loadOL stRat j hO2 hjp rfl (by simp) QC.agg ?_; intro u5 hu5; rw [hxp.out, hu2.out] at hu5; obtain ⟨s5, a5, n5, c5, d5, k5, e5, rfl⟩ := hu5.shape) | ((with_reducible show wpList _ _ _ (⟨_, .store _ _ _, _, _, _, _⟩ :: _) _ _); refine st_storeBox stRat rfl rfl bx rfl rfl (one3 _ _ _ _ _ _ _) ?_; intro w5 r1 r2))
          have hE5 : Ext wr w5 := ExtX.box ((ExtX.refl wr).alloc _) r2 (Nat.le_refl _)
          have hEd : Ext w5 w5.drew := (ExtX.refl w5).drew
          have hE5d := hE5.trans hEd
          have hO5 := hO1.ext0 QC.elem hE5d
          have hP5 := hO2.ext0 QC.elem hE5d
          have b5 := b7.ext0 hE5d
          have hx5 : QV (mk Z w5.drew) (.agg #[.bool s5, .slice a5 n5 c5, .slice d5 k5 e5]) x := (mkx QC.mono hu5 hE5d).qv hbp.out
          have hy5 : QV (mk Z w5.drew) (.agg #[.bool sg, .slice ap np cp, .slice dp kp ep]) y := (mkx QC.mono hrr hE5d).qv hbr.out
          have hf5 : QV (mk Z w5.drew) (.agg #[.bool sf, .slice af nf cf, .slice df kf ef]) f := mkx QV.mono hqf7 hE5d
          have hXd : HX Z w5.drew := hXr.ext hE5d
          obtain ⟨bw, hbw⟩ : ∃ bw, wr.heap.size = bw := ⟨_, rfl⟩
          have hab : Hid (ob a1 bw = false) := hid (by rw [← hbw]; exact hO1.ob_ge (Nat.le_refl _))
          have haf : Hid (ob a1 bf = false) := hid (by
            cases hb : ob a1 bf
            · rfl
            · have := (h1.block hb).2; omega)
          rw [hbw] at r1
          have hS : Hid (∀ Y W', ExtX Y w5.drew W' → Y gg = false → Y bf = false → Y bw = false → W'.cell? ⟨gg, oo, none⟩ = some (.bool sg) ∧ W'.cell? ⟨gg, oo + 1, none⟩ = some (.slice ap np cp) ∧ W'.cell? ⟨gg, oo + 2, none⟩ = some (.slice dp kp ep) ∧ W'.cell? ⟨bf, 0, none⟩ = some (.bool sf) ∧ W'.cell? ⟨bf, 1, none⟩ = some (.slice af nf cf) ∧ W'.cell? ⟨bf, 2, none⟩ = some (.slice df kf ef) ∧ W'.cell? ⟨bw, 0, none⟩ = some (.bool s5) ∧ W'.cell? ⟨bw, 1, none⟩ = some (.slice a5 n5 c5) ∧ W'.cell? ⟨bw, 2, none⟩ = some (.slice d5 k5 e5)) := hid fun Y W' h hy1 hy2 hy3 => by
            have z1 := hcc.out Y W' ((ExtX.of hE5d).trans h) hy1
            have z2 := b5.ext h hy2
            have z3 := (r1.ext0 hEd).ext h hy3
            exact ⟨z1.1, z1.2.1, z1.2.2, z2.cell 0 rfl, z2.cell 1 rfl, z2.cell 2 rfl, z3.cell 0 rfl, z3.cell 1 rfl, z3.cell 2 rfl⟩
          obtain ⟨k00, k01, k02, k10, k11, k12, k20, k21, k22⟩ := hS.out noY w5.drew (ExtX.refl _) rfl rfl rfl
          have hR5 := r1.ext0 hEd
          clear r1 bx hcc
          rw [hbw]
          go_wp2_with fail
          go_region_with (first | (go_at_call 98; (with_reducible refine (qmul Z w5.drew _ _ _ _ hXd hf5 hx5).mono ?_); rintro ee w6 ⟨t1, u6, rfl, hu6⟩; obtain ⟨s6, a6, n6, c6, d6, k6, e6, rfl⟩ := hu6.shape; have hX6 := hXd.ext t1; have hy6 := mkx QV.mono hy5 t1; have hm6 := hu6.qv hbm.out; obtain ⟨m0, m1, m2, _⟩ := hS.out noY w6 t1 rfl rfl rfl) | (go_at_call 193; (with_reducible refine (qsub Z w6 _ _ _ _ hX6 hy6 hm6).mono ?_); rintro ee w7 ⟨t7, u7, rfl, hu7⟩; obtain ⟨s7, a7, n7, c7, d7, k7, e7, rfl⟩ := hu7.shape; rw [hEj.out] at hu7; have t2 := t1.trans t7; have hO7 := hO5.ext0 QC.elem t2; obtain ⟨_, v0, v1, v2, _, ⟨g0, f0⟩, ⟨g1, f1⟩, ⟨g2, f2⟩, _⟩ := hO7.cell3 j hjm hg; have hset := hO7.set3 tyRat QC.elem j hjm hg (v0 := .bool s7) (v1 := .slice a7 n7 c7) (v2 := .slice d7 k7 e7) (x := v) (by rw [hu1.out]; exact hu7)))
          all_goals
            obtain ⟨q1, q2⟩ := hset
            rw [hjs.out] at q1
            have hP8 := (hP5.ext0 QC.elem t2).ext QC.elem q2 (fun k _ hk => cut_mk (hz1 k hk) (hdis k hk)) (fun _ _ hk => hk)
            have b8 := (b5.ext0 t2).ext q2 haf.out
            have hf8 : QV (mk Z _) _ _ := QV.mono _ _ _ _ (mk_mono q2 hz1) (mkx QV.mono hf5 t2)
            have hE8 := (hE.trans (ExtX.of (hE5d.trans t2))).trans q2
            clear k00 k01 k02 k10 k11 k12 k20 k21 k22 m0 m1 m2 g0 g1 g2 f0 f1 f2 i1
            go_wp2_with fail
            go_roundw
            case rel => exact ⟨j + 1, by go_num, by omega, q1, hP8, b8, hf8, hE8⟩
            case measure => simp [intOf]; omega
        · have hjn : j = n := by omega
          subst hjn
          rw [mix_full (by rw [hEl.out]; exact Nat.le_refl _) (by rw [hl1'.out]; exact Nat.le_refl _)] at hO1
          go_wp2_with fail
          go_end0
          exact ⟨rfl, hE, hO1⟩
end Go.Proofs.YtjbhcniiioepgaaGreat

namespace Go.Lin
def idxI : Option Nat → Int
  | none => -1
  | some k => k
end Go.Lin
namespace Go.Proofs.YtjbhcniiioepgaaGreat
open Go.RowKit Go.Rep Go.Lim Go.Lin

theorem closure_any (X : Nat → Bool) (w : World) (a : Option Addr) (l : List Rat) (n c col b : Nat) (hX : HX X w) (hs : Sl QC 3 (mk X w) a l) (hl : l.length = n) (hcol : col < n) (hB : BR 68719476736 l) (hb : w.cell? ⟨b, 0, none⟩ = some (.int .i64 (col : Int))) :
    Calls Tryz.prog 148 #[.slice a n c, .pointer (some ⟨b, 0, none⟩)] w (BOut w (decide (l.getD col 0 ≠ 0))) := by
  have hh : Hd a n := by have := hs.hd; rw [hl] at this; exact this
  have hcl : col < l.length := by omega
  have hsv := hs.qv hB
  obtain ⟨x, hx⟩ : ∃ x, l[col] = x := ⟨_, rfl⟩
  have hg : Hid (l.getD col 0 = x) := hid (by simp [List.getD_eq_getElem?_getD, hcl, hx])
  have hx' := hid hx
  clear hl hB hx
  rw [hg.out]
  by_cases h0 : x = 0
  · have hr : Hid (decide (x ≠ 0) = false) := hid (by simp [h0])
    have hs0 : Hid (x.num.sign = 0) := hid (by rw [h0]; rfl)
    rw [hr.out]
    clear h0
    go_enter Tryz.func148, Tryz.ntmps148
    go_wp2_with (first | (with_reducible refine up_ixn slRat (by omega) (by assumption) ?_) | ((with_reducible show wpList _ _ _ (⟨_, .load 31 _, _, _, _, _⟩ :: _) _ _); refine st_loadElem stRat col hsv hcl rfl (by simp) QV.agg ?_; intro u5 hu5; rw [hx'.out] at hu5; obtain ⟨s5, a5, n5, c5, d5, k5, e5, rfl⟩ := hu5.shape))
    refine (qsign X w _ x hX hu5).mono ?_
    rintro e w7 ⟨hE7, rfl⟩
    rw [hs0.out]
    go_wp2_with fail
    go_ret
    exact ⟨hE7, rfl⟩
  · have hr : Hid (decide (x ≠ 0) = true) := hid (by simp [h0])
    have hs0 : ((x.num.sign : Int) != 0) = true := bneT (by intro h; exact h0 (Rat.num_eq_zero.1 (Int.sign_eq_zero_iff_zero.1 h)))
    rw [hr.out]
    clear h0
    go_enter Tryz.func148, Tryz.ntmps148
    go_wp2_with (first | (with_reducible refine up_ixn slRat (by omega) (by assumption) ?_) | ((with_reducible show wpList _ _ _ (⟨_, .load 31 _, _, _, _, _⟩ :: _) _ _); refine st_loadElem stRat col hsv hcl rfl (by simp) QV.agg ?_; intro u5 hu5; rw [hx'.out] at hu5; obtain ⟨s5, a5, n5, c5, d5, k5, e5, rfl⟩ := hu5.shape))
    refine (qsign X w _ x hX hu5).mono ?_
    rintro e w7 ⟨hE7, rfl⟩
    generalize x.num.sign = sg at hs0
    go_wp2_with fail
    go_ret
    exact ⟨hE7, rfl⟩

set_option maxRecDepth 100000 in
theorem indexfunc_any (X : Nat → Bool) (w : World) (a : Option Addr) (l : List (List Rat)) (n c nc col b : Nat) (hX : HX X w) (hs : Sl RC 1 (mk X w) a l) (hl : l.length = n) (hn : n ≤ 1000000) (hr : ∀ r ∈ l, r.length = nc) (hcol : col < nc) (hB : BM 68719476736 l) (hb : w.cell? ⟨b, 0, none⟩ = some (.int .i64 (col : Int))) :
    Calls Tryz.prog 147 #[.slice a n c, .func (.func 148) #[] #[.pointer (some ⟨b, 0, none⟩)]] w (fun e w' => Ext w w' ∧ e = .returned (.int .i64 (idxI (l.findIdx? fun r => decide (r.getD col 0 ≠ 0))))) := by
  have hh : Hd a n := by have := hs.hd; rw [hl] at this; exact this
  have hl' := hid hl
  have hr' := hid hr
  have hB' := hid hB
  have hres1 : Hid (∀ i (hi : i < l.length), (∀ q (hq : q < l.length), q < i → l[q].getD col 0 = 0) → l[i].getD col 0 ≠ 0 → l.findIdx? (fun r => decide (r.getD col 0 ≠ 0)) = some i) := hid fun i hi h1 h2 => by
    rw [List.findIdx?_eq_some_iff_getElem]
    exact ⟨hi, by simpa using h2, fun q hq => by simpa using h1 q (by omega) hq⟩
  have hres2 : Hid ((∀ q (hq : q < l.length), l[q].getD col 0 = 0) → l.findIdx? (fun r => decide (r.getD col 0 ≠ 0)) = none) := hid fun h1 => by
    rw [List.findIdx?_eq_none_iff]
    intro r hr
    obtain ⟨q, hq, rfl⟩ := List.getElem_of_mem hr
    simpa using h1 q hq
  obtain ⟨F, hF⟩ : ∃ F, l.findIdx? (fun r => decide (r.getD col 0 ≠ 0)) = F := ⟨_, rfl⟩
  rw [hF] at hres1 hres2 ⊢
  clear hl hr hB hF
  go_enter Tryz.func147, Tryz.ntmps147
  go_wp2_with fail
  go_loopw [8] (fun k wr => ∃ (i : Nat), k = .int .i64 i ∧ i ≤ n ∧ Hid (∀ q (hq : q < l.length), q < i → l[q].getD col 0 = 0) ∧ Ext w wr) (fun k _ => n - (intOf k).toNat)
  case atStart => exact ⟨0, rfl, Nat.zero_le _, hid (fun q hq h => by omega), ExtX.refl _⟩
  case round =>
    obtain ⟨i, rfl, hi, hok, hE⟩ := hrel
    by_cases hlt : i < n
    · have hil : i < l.length := by rw [hl'.out]; exact hlt
      obtain ⟨a1, c1, hX1, hc1, hcl1, hq1⟩ := (hs.mono RC.mono (mk_ext hE)).row i hil
      have k00 := hc1.out noY wr (ExtX.refl _) rfl
      have hrl := hid (hr'.out l[i] (List.getElem_mem _))
      have hbl := hid (hB'.out l[i] (List.getElem_mem _))
      rw [hrl.out] at k00
      have hcell := hE.cell hb
      have hcall := closure_any X wr a1 l[i] nc c1 col b (hX.ext hE) hq1 hrl.out hcol hbl.out hcell
      by_cases h0 : l[i].getD col 0 = 0
      · have hd : Hid (decide (l[i].getD col 0 ≠ 0) = false) := hid (decide_eq_false (fun h => h h0))
        rw [hd.out] at hcall
        have hok2 : Hid (∀ q (hq : q < l.length), q < i + 1 → l[q].getD col 0 = 0) := hid fun q hq hqi => by
          by_cases e : q = i
          · subst e; exact h0
          · exact hok.out q hq (by omega)
        clear h0 hc1 hq1
        go_wp2_with (with_reducible refine up_ix1 slRats (by omega) (by assumption) ?_)
        refine hcall.mono ?_
        rintro e w5 ⟨hE5, rfl⟩
        clear k00
        go_wp2_with fail
        go_roundw
        case rel => exact ⟨i + 1, by go_num, by omega, hok2, hE.trans hE5⟩
        case measure => simp [intOf]; omega
      · have hd : Hid (decide (l[i].getD col 0 ≠ 0) = true) := hid (decide_eq_true h0)
        rw [hd.out] at hcall
        have hf := hid (hres1.out i hil (fun q hq hqi => hok.out q hq hqi) h0)
        clear h0 hc1 hq1
        go_wp2_with (with_reducible refine up_ix1 slRats (by omega) (by assumption) ?_)
        refine hcall.mono ?_
        rintro e w5 ⟨hE5, rfl⟩
        clear k00
        go_wp2_with fail
        go_ret
        exact ⟨hE.trans hE5, ret_int (by rw [hf.out]; rfl)⟩
    · have hf := hid (hres2.out fun q hq => hok.out q hq (by rw [hl'.out] at hq; omega))
      go_wp2_with fail
      go_ret
      exact ⟨hE, ret_int (by rw [hf.out]; rfl)⟩
end Go.Proofs.YtjbhcniiioepgaaGreat

namespace Go.Lin
theorem getD_row {m : Mat} {i : Nat} (h : i < m.length) : m.getD i [] = m[i] := by simp [List.getD_eq_getElem?_getD, h]
theorem clear_zero (m : Mat) (t col : Nat) : clear m t col 0 = m := by
  unfold clear rows
  refine List.ext_getElem (by simp) fun q h1 h2 => ?_
  rw [List.getElem_mapIdx, if_neg (by omega)]
theorem clear_get {m : Mat} {t col s i : Nat} (h : i < (clear m t col s).length) (h2 : i < m.length) : (clear m t col s)[i] = if t < i ∧ i < t + 1 + s then elimL m[i] (m.getD t []) col else m[i] := by
  show (m.mapIdx _)[i]'(by simpa using h2) = _
  rw [List.getElem_mapIdx]
theorem clear_len (m : Mat) (t col s : Nat) : (clear m t col s).length = m.length := by simp [clear, rows]
theorem clear_set {m : Mat} {t col s : Nat} (h : t + 1 + s < m.length) : (clear m t col s).set (t + 1 + s) (elimL m[t + 1 + s] (m.getD t []) col) = clear m t col (s + 1) := by
  refine List.ext_getElem (by simp [clear_len]) fun q h1 h2 => ?_
  have hq : q < m.length := by rw [clear_len] at h2; exact h2
  rw [List.getElem_set, clear_get h2 hq]
  split
  · subst_vars; rw [if_pos (by omega)]
  · rw [clear_get (by simpa [clear_len] using hq) hq]
    by_cases a : t < q ∧ q < t + 1 + s
    · rw [if_pos a, if_pos (by omega)]
    · rw [if_neg a, if_neg (by omega)]
theorem clear_full {m : Mat} {t col s s' : Nat} (h : m.length ≤ t + 1 + s) (h' : m.length ≤ t + 1 + s') : clear m t col s = clear m t col s' := by
  refine List.ext_getElem (by simp [clear_len]) fun q h1 h2 => ?_
  have hq : q < m.length := by rw [clear_len] at h2; exact h2
  rw [clear_get h1 hq, clear_get h2 hq]
  by_cases a : t < q
  · rw [if_pos (by omega), if_pos (by omega)]
  · rw [if_neg (by omega), if_neg (by omega)]
theorem above_zero (m : Mat) (t col : Nat) : above m t col 0 = m := by
  unfold above rows
  refine List.ext_getElem (by simp) fun q h1 h2 => ?_
  rw [List.getElem_mapIdx, if_neg (by omega)]
theorem above_get {m : Mat} {t col s i : Nat} (h : i < (above m t col s).length) (h2 : i < m.length) : (above m t col s)[i] = if i < t ∧ i < s then elimL m[i] (m.getD t []) col else m[i] := by
  show (m.mapIdx _)[i]'(by simpa using h2) = _
  rw [List.getElem_mapIdx]
theorem above_len (m : Mat) (t col s : Nat) : (above m t col s).length = m.length := by simp [above, rows]
theorem above_set {m : Mat} {t col s : Nat} (h : s < m.length) (hst : s < t) : (above m t col s).set s (elimL m[s] (m.getD t []) col) = above m t col (s + 1) := by
  refine List.ext_getElem (by simp [above_len]) fun q h1 h2 => ?_
  have hq : q < m.length := by rw [above_len] at h2; exact h2
  rw [List.getElem_set, above_get h2 hq]
  split
  · subst_vars; rw [if_pos (by omega)]
  · rw [above_get (by simpa [above_len] using hq) hq]
    by_cases a : q < t ∧ q < s
    · rw [if_pos a, if_pos (by omega)]
    · rw [if_neg a, if_neg (by omega)]
end Go.Lin
namespace Go.Rep
open Go.RowKit Go.Lim Go.Lin
theorem obs_swap {hs : List Hdr} {i k : Nat} (hi : i < hs.length) (hk : k < hs.length) : obs ((hs.set i hs[k]).set k hs[i]) = obs hs := by
  funext b
  rw [Bool.eq_iff_iff]
  constructor
  · intro h
    obtain ⟨q, hq, h2⟩ := obs_of h
    simp only [List.length_set] at hq
    rw [List.getElem_set] at h2
    split at h2
    · exact obs_get hi h2
    · rw [List.getElem_set] at h2
      split at h2
      · exact obs_get hk h2
      · exact obs_get hq h2
  · intro h
    obtain ⟨q, hq, h2⟩ := obs_of h
    by_cases a : q = i
    · subst a
      refine obs_get (i := k) (by simpa using hk) ?_
      rw [List.getElem_set_self]; exact h2
    · by_cases b' : q = k
      · subst b'
        refine obs_get (i := i) (by simpa using hi) ?_
        rw [List.getElem_set_ne (by omega), List.getElem_set_self]; exact h2
      · refine obs_get (i := q) (by simpa using hq) ?_
        rw [List.getElem_set_ne (by omega), List.getElem_set_ne (by omega)]; exact h2
section
variable {X : Nat → Bool} {base : Nat} {e1 e2 : TypeId} {w w' : World} {ao : Option Addr} {cap : Nat} {hs : List Hdr} {m : List (List Rat)}
theorem swapL_get {m : Mat} {i k q : Nat} (hi : i < m.length) (hk : k < m.length) (hq : q < (swapL m i k).length) : (swapL m i k)[q] = if q = k then m[i] else if q = i then m[k] else m[q]'(by simpa [swapL] using hq) := by
  simp only [swapL, getD_row hi, getD_row hk]
  rw [List.getElem_set]
  by_cases a : k = q
  · rw [if_pos a, if_pos a.symm]
  · rw [if_neg a, if_neg (Ne.symm a), List.getElem_set]
    by_cases b : i = q
    · rw [if_pos b, if_pos b.symm]
    · rw [if_neg b, if_neg (Ne.symm b)]
theorem hset_get {hs : List Hdr} {i k q : Nat} (hi : i < hs.length) (hk : k < hs.length) (hq : q < ((hs.set i hs[k]).set k hs[i]).length) : ((hs.set i hs[k]).set k hs[i])[q] = if q = k then hs[i] else if q = i then hs[k] else hs[q]'(by simpa using hq) := by
  rw [List.getElem_set]
  by_cases a : k = q
  · rw [if_pos a, if_pos a.symm]
  · rw [if_neg a, if_neg (Ne.symm a), List.getElem_set]
    by_cases b : i = q
    · rw [if_pos b, if_pos b.symm]
    · rw [if_neg b, if_neg (Ne.symm b)]
theorem MO.swap (h : MO X base e1 e2 w ao cap hs m) {i k : Nat} (hi : i < hs.length) (hk : k < hs.length) (hE : ExtX (ob ao) w w') (ho : OL HdR 1 X base e1 w' ao cap ((hs.set i hs[k]).set k hs[i])) : MO X base e1 e2 w' ao cap ((hs.set i hs[k]).set k hs[i]) (swapL m i k) := by
  have hl := h.len
  refine h.perm (fun q => if q = k then i else if q = i then k else q) (fun q hq => ?_) (fun a b ha hb hab => ?_) (fun q hq => ?_) (by simp) (by simp [swapL]) (fun q hq hq' => ?_) (fun q hq hq' => ?_) hE ho
  · split
    · exact hi
    · split
      · exact hk
      · exact hq
  · split at hab <;> split at hab <;> (try split at hab) <;> (try split at hab) <;> omega
  · by_cases a : q = i
    · exact ⟨k, hk, by simp [a]⟩
    · by_cases b : q = k
      · refine ⟨i, hi, ?_⟩
        by_cases c : i = k
        · omega
        · simp [c, b]
      · exact ⟨q, hq, by simp [a, b]⟩
  · rw [hset_get hi hk hq]
    by_cases a : q = k
    · simp [a]
    · by_cases b : q = i
      · subst b; simp [a]
      · simp [a, b]
  · rw [swapL_get (by omega) (by omega) hq]
    by_cases a : q = k
    · simp [a]
    · by_cases b : q = i
      · subst b; simp [a]
      · simp [a, b]
end
section
variable {P : Program} {ops : Array Oper} {Q : Exit → Act → World → Prop} {rest : List Oper} {a : Act} {w : World}
variable {d : Option Tmp} {ty : TypeId} {ps : String} {af : Array Edge}
/-- 'x[i:]', with what its addresses are. -/
theorem st_fromA {t e by_ : Nat} {z : Value} {x lo : Operand} {k1 : IntKind} {m : Int} {ao : Option Addr} {cap : Nat} (T : SliceT P t e 1 by_ z) (n i : Nat) (hx : a.eval x = .slice ao n cap) (hlo : a.eval lo = .int k1 m) (hm : m = (i : Int)) (hd : Hd ao n) (hi : i ≤ n) (hc : n ≤ cap)
    (K : ∀ ao', (∀ k, k < n - i → adr ao' k = adr ao (i + k)) → Hd ao' (n - i) → wpList P ops Q rest (a.put d (.slice ao' (n - i) (cap - i))) w) :
    wpList P ops Q (⟨d, .slice t x (some lo) none none, ty, ps, af, none⟩ :: rest) a w := by
  refine wpList_plain rfl fun K' hK' => ?_
  subst hm
  have hr := run_slice_i (P := P) (ao := ao) T n cap k1 i hi hc w
  have := K (subAddr ao i cap 1) (fun k hk => by
    obtain ⟨b, off, rfl⟩ := hd (by omega)
    have hm : ¬ cap = i := by omega
    simp [subAddr, hm, Addr.add_lit, adr, Nat.add_assoc]) (fun hn => by
    obtain ⟨b, off, rfl⟩ := hd (by omega)
    have hm : ¬ cap = i := by omega
    exact ⟨b, off + i * 1, by simp [subAddr, hm, Addr.add_lit]⟩)
  unfold Oper.wp
  simp [execOp, hx, hlo, hr, Result.andThen]
  exact hK' _ _ this
end
end Go.Rep

namespace Go.Lin
open Go.Lim
/-- All numbers that the program's elimination meets are of few digits. -/
def Tame (m : Mat) (c : Nat) : Prop := ∃ B, 7 * B ≤ 68719476736 ∧ (∀ j, j ≤ c → HB B (eN m j).1) ∧ ∀ t, t ≤ (eN m c).2.1.length → HB B (dN (eN m c).1 (eN m c).2.1 t)
theorem pow_le (a : Nat) {i n : Nat} (ha : 0 < a) (h : i ≤ n) : a ^ i ≤ a ^ n := Nat.pow_le_pow_right ha h
theorem tame_of {n c B : Nat} {m : Mat} (hs : Shp n c m) (h : HB B m) (hB : 7 * (35 ^ n * B) ≤ 68719476736) : Tame m c := by
  have hle : ∀ j, (eN m j).2.1.length ≤ n := fun j => (eN_ok hs j).ech.le
  refine ⟨35 ^ n * B, hB, fun j _ => (h.eN hs j).mono (Nat.mul_le_mul_right _ ?_), fun t ht => (((h.eN hs c).dN (eN_ok hs c).shp (eN_ok hs c).ech t ht)).mono ?_⟩
  · exact Nat.le_trans (pow_le 5 (by omega) (hle j)) (Nat.pow_le_pow_left (by omega) n)
  · rw [← Nat.mul_assoc]
    refine Nat.mul_le_mul_right _ ?_
    rw [show (35 : Nat) = 7 * 5 from rfl, Nat.mul_pow]
    exact Nat.mul_le_mul (pow_le 7 (by omega) (Nat.le_trans ht (hle c))) (pow_le 5 (by omega) (hle c))
theorem hb_redP {n c B : Nat} {m : Mat} (h : HB B m) (hs : Shp n c m) : HB (35 ^ n * B) (redP m c).1 := by
  have hle : (eN m c).2.1.length ≤ n := (eN_ok hs c).ech.le
  refine ((h.eN hs c).dN (eN_ok hs c).shp (eN_ok hs c).ech _ (Nat.le_refl _)).mono ?_
  rw [← Nat.mul_assoc]
  refine Nat.mul_le_mul_right _ ?_
  rw [show (35 : Nat) = 7 * 5 from rfl, Nat.mul_pow]
  exact Nat.mul_le_mul (pow_le 7 (by omega) hle) (pow_le 5 (by omega) hle)

theorem rows_id {m : Mat} {f : Nat → List Rat → List Rat} (h : ∀ i (hi : i < m.length), f i m[i] = m[i]) : rows m f = m := by
  refine List.ext_getElem (by simp [rows]) fun i h1 h2 => ?_
  simp only [rows, List.getElem_mapIdx]
  exact h i h2
theorem clear_id {n c : Nat} {m : Mat} (hs : Shp n c m) {t : Nat} (ht : t < n) (col s : Nat) (h : ∀ i, t < i → i < n → ent m i col = 0) : clear m t col s = m := by
  refine rows_id fun i hi => ?_
  have hin : i < n := by rw [← hs.1]; exact hi
  split
  · rename_i a
    refine elimL_zero _ _ _ (by rw [hs.2 _ (List.getElem_mem _), hs.row ht]) ?_
    have := h i a.1 hin
    unfold ent at this
    rw [show m.getD i [] = m[i] by simp [List.getD_eq_getElem?_getD, hi]] at this
    rw [this]; grind
  · rfl
theorem above_id {n c : Nat} {m : Mat} (hs : Shp n c m) {t : Nat} (ht : t < n) (col s : Nat) (h : ∀ i, i < t → ent m i col = 0) : above m t col s = m := by
  refine rows_id fun i hi => ?_
  split
  · rename_i a
    refine elimL_zero _ _ _ (by rw [hs.2 _ (List.getElem_mem _), hs.row ht]) ?_
    have := h i a.1
    unfold ent at this
    rw [show m.getD i [] = m[i] by simp [List.getD_eq_getElem?_getD, hi]] at this
    rw [this]; grind
  · rfl
theorem divL_id {n c : Nat} {m : Mat} (hs : Shp n c m) {t : Nat} (ht : t < n) (col : Nat) (h : ent m t col = 1) : divL m t col = m := by
  unfold divL
  rw [h]
  have e : (m.getD t []).map (· / 1) = m.getD t [] := by
    rw [show (fun x : Rat => x / 1) = id from by funext x; simp only [id]; grind, List.map_id]
  have htl : t < m.length := by rw [hs.1]; exact ht
  rw [e]; simp [List.getD_eq_getElem?_getD, htl]
/-- The elimination leaves a reduced form as it is. -/
theorem eN_red {n c : Nat} {m : Mat} {p : List Nat} (hs : Shp n c m) (hr : Rref n c (ent m) p) (j : Nat) (hj : j ≤ c) : eN m j = (m, p.filter (· < j), false) := by
  induction j with
  | zero => simp [eN]
  | succ j ih =>
    have ih := ih (by omega)
    have hpre : ∀ q : List Nat, q.Pairwise (· < ·) → ∀ i (hi : i < q.length), q[i] < j ↔ i < (q.filter (· < j)).length := by
      intro q
      induction q with
      | nil => intro _ i hi; simp at hi
      | cons a q ihq =>
        intro hp i hi
        rw [List.pairwise_cons] at hp
        by_cases ha : a < j
        · rw [List.filter_cons_of_pos (by simpa using ha), List.length_cons]
          match i with
          | 0 => simp [ha]
          | i + 1 => simpa using ihq hp.2 i (by simpa using hi)
        · have hnil : q.filter (· < j) = [] := by
            rw [List.filter_eq_nil_iff]; intro x hx; have := hp.1 x hx; simp; omega
          rw [List.filter_cons_of_neg (by simpa using ha), hnil]
          match i with
          | 0 => simp [ha]
          | i + 1 =>
            have hi' : i < q.length := by simpa using hi
            have := hp.1 q[i] (List.getElem_mem _)
            simp; omega
    have hpp := hpre p hr.pw
    show eStep (eN m j) j = _
    rw [ih]
    have hle := hr.le
    have hfl : (p.filter (· < j)).length ≤ p.length := List.length_filter_le _ _
    have hsucc : ∀ q : List Nat, q.Pairwise (· < ·) → q.filter (· < j + 1) = q.filter (· < j) ++ (if j ∈ q then [j] else []) := by
      intro q
      induction q with
      | nil => intro _; simp
      | cons a q ihq =>
        intro hp
        rw [List.pairwise_cons] at hp
        rcases Nat.lt_trichotomy a j with h | h | h
        · rw [List.filter_cons_of_pos (by simp; omega), List.filter_cons_of_pos (by simpa using h), ihq hp.2]
          simp [show ¬ j = a by omega]
        · subst h
          have hnil : q.filter (· < a) = [] := by
            rw [List.filter_eq_nil_iff]; intro x hx; have := hp.1 x hx; simp; omega
          have hnil2 : q.filter (· < a + 1) = [] := by
            rw [List.filter_eq_nil_iff]; intro x hx; have := hp.1 x hx; simp; omega
          rw [List.filter_cons_of_pos (by simp), List.filter_cons_of_neg (by simp), hnil, hnil2]
          simp
        · have hnil : q.filter (· < j) = [] := by
            rw [List.filter_eq_nil_iff]; intro x hx; have := hp.1 x hx; simp; omega
          have hnil2 : q.filter (· < j + 1) = [] := by
            rw [List.filter_eq_nil_iff]; intro x hx; have := hp.1 x hx; simp; omega
          have hnm : ¬ j ∈ q := fun hx => by have := hp.1 j hx; omega
          rw [List.filter_cons_of_neg (by simp; omega), List.filter_cons_of_neg (by simp; omega), hnil, hnil2]
          simp [hnm, show ¬ j = a by omega]
    rw [hsucc p hr.pw]
    unfold eStep
    dsimp only
    split
    · rename_i e
      have hnm : ¬ j ∈ p := fun hx => by
        obtain ⟨i, hi, rfl⟩ := List.getElem_of_mem hx
        have h1 := (hpp i hi).2 (by rw [hs.1] at e; omega)
        omega
      simp [hnm]
    · rename_i e
      rw [hs.1] at e
      have htn : (p.filter (· < j)).length < n := by omega
      by_cases hjp : j ∈ p
      · obtain ⟨i, hi, hij⟩ := List.getElem_of_mem hjp
        have h1 : ¬ i < (p.filter (· < j)).length := fun h => by have := (hpp i hi).2 h; omega
        have h2 : (p.filter (· < j)).length = i := by
          refine Classical.byContradiction fun hne => ?_
          have h3 : (p.filter (· < j)).length < i := by omega
          have h4 := hr.inc _ i h3 hi
          have h5 := (hpp (p.filter (· < j)).length (by omega)).1 (by rw [hij] at h4; exact h4)
          omega
        rw [h2] at htn ⊢
        have hone := hr.one i hi
        rw [hij] at hone
        have hnz : nzAt m i j = some 0 := by
          unfold nzAt
          have hlt : i < m.length := by rw [hs.1]; exact htn
          rw [List.drop_eq_getElem_cons hlt, List.findIdx?_cons]
          have : decide (m[i].getD j 0 ≠ 0) = true := by
            unfold ent at hone
            rw [show m.getD i [] = m[i] by simp [List.getD_eq_getElem?_getD, hlt]] at hone
            rw [hone]; decide
          rw [this]; rfl
        rw [hnz]
        dsimp only
        rw [Nat.add_zero, swapL_self m i (by rw [hs.1]; exact htn), clear_id hs htn j _ (fun q hq hqn => by have := hr.zero i hi q hqn (by omega); rw [hij] at this; exact this)]
        simp [hjp]
      · have hz : nzAt m (p.filter (· < j)).length j = none := by
          unfold nzAt
          rw [List.findIdx?_eq_none_iff]
          intro r hrm
          obtain ⟨q, hq, rfl⟩ := List.getElem_of_mem hrm
          rw [List.length_drop] at hq
          rw [List.getElem_drop]
          have h0 : ent m ((p.filter (· < j)).length + q) j = 0 := by
            by_cases hqp : (p.filter (· < j)).length + q < p.length
            · refine hr.left _ hqp j ?_
              have h1 : ¬ p[(p.filter (· < j)).length + q] < j := fun h => by have := (hpp _ hqp).1 h; omega
              have h2 : p[(p.filter (· < j)).length + q] ≠ j := fun h => hjp (h ▸ List.getElem_mem _)
              omega
            · exact hr.below _ (by omega) (by rw [← hs.1]; omega) j (by omega)
          have hl : (p.filter (· < j)).length + q < m.length := by omega
          unfold ent at h0
          rw [show m.getD ((p.filter (· < j)).length + q) [] = m[(p.filter (· < j)).length + q] by simp [List.getD_eq_getElem?_getD, hl]] at h0
          rw [h0]; decide
        rw [hz]
        simp [hjp]
theorem filter_all {p : List Nat} {c : Nat} (h : ∀ i (hi : i < p.length), p[i] < c) : p.filter (· < c) = p := by
  rw [List.filter_eq_self]; intro x hx
  obtain ⟨i, hi, rfl⟩ := List.getElem_of_mem hx
  simpa using h i hi
theorem dN_red {n c : Nat} {m : Mat} {p : List Nat} (hs : Shp n c m) (hr : Rref n c (ent m) p) (t : Nat) (ht : t ≤ p.length) : dN m p t = m := by
  induction t with
  | zero => rfl
  | succ t ih =>
    have htn : t < n := Nat.lt_of_lt_of_le (show t < p.length by omega) hr.le
    have hp : p.getD t 0 = p[t]'(by omega) := by simp [List.getD_eq_getElem?_getD, show t < p.length by omega]
    show dStep (dN m p t) t (p.getD t 0) = m
    rw [ih (by omega), hp]
    unfold dStep
    rw [divL_id hs htn _ (hr.one t (by omega)), above_id hs htn _ _ (fun i hi => hr.zero t (by omega) i (by omega) (by omega))]
theorem tame_red {n c B : Nat} {m : Mat} {p : List Nat} (hs : Shp n c m) (hr : Rref n c (ent m) p) (h : HB B m) (hB : 7 * B ≤ 68719476736) : Tame m c := by
  refine ⟨B, hB, fun j hj => by rw [eN_red hs hr j hj]; exact h, fun t ht => ?_⟩
  rw [eN_red hs hr c (Nat.le_refl _), filter_all hr.lt] at ht ⊢
  rw [dN_red hs hr t ht]; exact h
end Go.Lin
