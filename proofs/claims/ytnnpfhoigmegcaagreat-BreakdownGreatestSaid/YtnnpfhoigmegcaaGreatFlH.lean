/- Parts of a proof: each theorem states what it proves, and its conditions. -/
import Derived.Test.YtnnpfhoigmegcaaGreatFlG
import Derived.BigRegion
namespace Go.Lin
def mix {α : Type} (a b : List α) (i : Nat) : List α := a.take i ++ b.drop i
theorem mix_len {α : Type} {a b : List α} (h : a.length = b.length) (i : Nat) : (mix a b i).length = a.length := by simp [mix]; omega
theorem mix_zero {α : Type} (a b : List α) : mix a b 0 = b := by simp [mix]
theorem mix_full {α : Type} {a b : List α} {i : Nat} (h1 : a.length <= i) (h2 : b.length <= i) : mix a b i = a := by simp [mix, List.take_of_length_le h1, List.drop_of_length_le h2]
theorem mix_getElem {α : Type} {a b : List α} (h : a.length = b.length) (i q : Nat) (hq : q < (mix a b i).length) : (mix a b i)[q] = if q < i then a[q]'(by rw [mix_len h] at hq; exact hq) else b[q]'(by rw [mix_len h] at hq; omega) := by
  have hq' := hq
  rw [mix_len h] at hq'
  have hq2 : q < (a.take i ++ b.drop i).length := hq
  show (a.take i ++ b.drop i)[q]'hq2 = _
  rw [List.getElem_append]
  by_cases a1 : q < i
  · rw [dif_pos (by simp; omega), if_pos a1, List.getElem_take]
  · rw [dif_neg (by simp; omega), if_neg a1, List.getElem_drop]
    congr 1
    simp; omega
theorem mix_set {α : Type} {a b : List α} (h : a.length = b.length) {i : Nat} (hi : i < a.length) : (mix a b i).set i a[i] = mix a b (i + 1) := by
  refine List.ext_getElem (by simp [mix_len h]) fun q h1 h2 => ?_
  rw [List.getElem_set]
  split
  · subst_vars; rw [mix_getElem h, if_pos (by omega)]
  · rw [mix_getElem h, mix_getElem h]
    by_cases a1 : q < i
    · rw [if_pos a1, if_pos (by omega)]
    · rw [if_neg a1, if_neg (by omega)]
theorem mix_at {α : Type} {a b : List α} (h : a.length = b.length) {i : Nat} (hi : i < b.length) : (mix a b i).set i b[i] = mix a b i := by
  refine List.ext_getElem (by simp) fun q h1 h2 => ?_
  rw [List.getElem_set]
  split
  · subst_vars; rw [mix_getElem h, if_neg (by omega)]
  · rfl
end Go.Lin
namespace Go.Proofs.YtnnpfhoigmegcaaGreat
open Go.RowKit Go.Rep Go.Lim Go.Lin
set_option maxRecDepth 100000 in
set_option maxHeartbeats 800000 in
theorem copied_any (X : Nat -> Bool) (w : World) (u : Value) (m : List (List Rat)) (n c : Nat) (hX : HX X w) (hu : MV (mk X w) u m) (hsh : Shp n c m) (hc : colsL m = c) (hn : n <= 1000) (hcc : c <= 1000) : Calls Tryz.prog 271 #[u] w (MOut X 26 41 w m) := by
  have hcol := columns_any X w u m hu
  obtain ⟨ao0, ca, rfl, hca, hsa⟩ := hu
  have hha := hsa.hd
  rw [hc] at hcol
  have hml := hid hsh.1
  have hrl := hid hsh.2
  rw [hml.out] at hca hha hcol |-
  obtain ⟨A, hA⟩ : ∃ A, List.replicate n (List.replicate c (0 : Rat)) = A := ⟨_, rfl⟩
  have hAl : Hid (A.length = n) := hid (by rw [<- hA]; simp)
  have hAi : Hid (∀ i (hi : i < A.length), A[i] = List.replicate c (0 : Rat)) := hid fun i hi => by subst hA; simp
  have hmA : Hid (m.length = A.length) := hid (by rw [hml.out, hAl.out])
  have hz0 := zero_any X w n c hX hn hcc
  rw [hA] at hz0
  clear hA hsh hc
  go_enter Tryz.func271, Tryz.ntmps271
  go_wp2_with fail
  refine hcol.mono ?_
  rintro e w1 ⟨rfl, rfl⟩
  go_wp2_with fail
  refine hz0.mono ?_
  rintro e w2 ⟨hE2, ao, cap, hs, rfl, hM2⟩
  rw [hAl.out]
  have hlen := hid (hM2.len.trans hAl.out)
  have hcap : n <= cap := by have := hM2.capLen; rw [hAl.out] at this; exact this
  have hhO : Hd ao n := by have := hM2.outer.hd; rw [hlen.out] at this; exact this
  have hrl2 : Hid (∀ i (hi : i < hs.length), hs[i].2.1 = c) := hid fun i hi => by
    have h1 : i < A.length := by rw [hAl.out, <- hlen.out]; exact hi
    rw [hM2.rlen i hi h1, hAi.out i h1]; simp
  clear hcol hz0
  go_wp2_with fail
  go_loopw [15] (fun k wr => ∃ (i : Nat), k = .int .i64 i /\ i <= n /\ MO X w1.heap.size 26 41 wr ao cap hs (mix m A i) /\ Ext w1 wr) (fun k _ => n - (intOf k).toNat)
  case atStart => exact ⟨0, rfl, Nat.zero_le _, by rw [mix_zero]; exact hM2, hE2⟩
  case round =>
    obtain ⟨i, rfl, hi, hM, hE⟩ := hrel
    by_cases hlt : i < n
    · have him : i < m.length := by rw [hml.out]; exact hlt
      have hiA : i < A.length := by rw [hAl.out]; exact hlt
      have hih : i < hs.length := by rw [hlen.out]; exact hlt
      obtain ⟨a1, c1, hX1, hc1, hcl1, hq1⟩ := hsa.row i him
      have k00 := hc1.out noY wr hE rfl
      obtain ⟨x, hx⟩ : ∃ x, m[i] = x := ⟨_, rfl⟩
      obtain ⟨z, hz⟩ : ∃ z, A[i] = z := ⟨_, rfl⟩
      rw [hx] at k00 hcl1 hq1
      have hxl : Hid (x.length = c) := hid (by rw [<- hx]; exact hrl.out _ (List.getElem_mem _))
      have hzl : Hid (z.length = c) := hid (by rw [<- hz, hAi.out i hiA]; simp)
      have hxz : Hid (x.length = z.length) := hid (by rw [hxl.out, hzl.out])
      rw [hxl.out] at k00 hcl1
      have hst : Hid ((mix m A i).set i z = mix m A i) := hid (by rw [<- hz]; exact mix_at hmA.out hiA)
      have hfin : Hid ((mix m A i).set i x = mix m A (i + 1)) := hid (by rw [<- hx]; exact mix_set hmA.out him)
      have hmi : Hid (i < (mix m A i).length) := hid (by rw [mix_len hmA.out]; exact him)
      have hh1 : Hd a1 c := by have := hq1.hd; rw [hxl.out] at this; exact this
      have hrow : RV (mk X w1) (.slice a1 c c1) x := ⟨a1, c1, by rw [hxl.out], by rw [hxl.out]; exact hcl1, hq1⟩
      obtain ⟨a, na, cr, hhd⟩ : ∃ a na cr, hs[i] = (a, na, cr) := ⟨_, _, _, rfl⟩
      have hna : na = c := by have := hrl2.out i hih; rw [hhd] at this; exact this
      subst hna
      have hhd' := hid hhd
      rw [<- hst.out] at hM
      have hM' : MO X w1.heap.size 26 41 wr ao cap hs ((mix m A i).set i (mix x z 0)) := by rw [mix_zero]; exact hM
      clear hx hz hc1 hq1 hhd hM
      obtain ⟨wo, hwo⟩ : ∃ wo, wo = wr := ⟨_, rfl⟩
      subst hwo
      go_wp2_with (with_reducible refine up_ix1 slRats (by omega) (by assumption) ?_)
      go_loopw [22] (fun k wr => ∃ (j : Nat), k = .int .i64 j /\ j <= na /\ MO X w1.heap.size 26 41 wr ao cap hs ((mix m A i).set i (mix x z j)) /\ Ext w1 wr) (fun k _ => na - (intOf k).toNat)
      case atStart => exact ⟨0, rfl, Nat.zero_le _, hM', hE⟩
      case round =>
        obtain ⟨j, rfl, hj, hM, hE⟩ := hrel
        by_cases hlj : j < na
        · have hjx : j < x.length := by rw [hxl.out]; exact hlj
          have hXr : HX X wr := hX.ext hE
          have hXz := hM.hz hXr
          have hsr : Sl QV 3 (mk (mz X ao hs) wr) a1 x := by
            obtain ⟨_, _, heq, _, h3⟩ := hM.old RV.mono hrow hE (Nat.le_refl _) (fun _ _ h => h)
            simp only [Value.slice.injEq] at heq
            obtain ⟨rfl, _, rfl⟩ := heq
            exact h3
          have hmx : Hid (i < ((mix m A i).set i (mix x z j)).length) := hid (by rw [List.length_set]; exact hmi.out)
          have hjl : Hid ((mix x z j).length = na) := hid (by rw [mix_len hxz.out, hxl.out])
          have hOr := hM.row i hih hmx.out
          rw [List.getElem_set_self] at hOr
          simp only [hhd'.out] at hOr
          have hda : Hd a na := by have := hOr.hd; rw [hjl.out] at this; exact this
          have hun : Hid (un (cut (mz X ao hs) a) a = mz X ao hs) := hid (un_cut fun k hk => by have := hM.mz_sub hih k; rw [hhd'.out] at this; exact this hk)
          have hbsep : Hid (ob a (adr ao i).block = false) := hid (by
            cases hb : ob a (adr ao i).block
            · rfl
            · have h1 := (hM.sep i hih (adr ao i).block (by rw [hhd'.out]; exact hb)).2
              obtain ⟨b0, o0, rfl⟩ := hhO (by omega)
              simp [ob, adr] at h1)
          have hbnew : Hid (ob a wr.heap.size = false) := hid (hOr.ob_ge (Nat.le_refl _))
          obtain ⟨g, o, hg⟩ : ∃ g o, adr a (j * 3) = ⟨g, o, none⟩ := ⟨_, _, rfl⟩
          have i2 : ∀ W, (Instr.indexAt 25 (.slice ao n cap) (.int .i64 (i : Int))).run Tryz.prog W = .ok (.pointer (some (adr ao i))) W := run_ix1 slRats ao n cap .i64 i hhO (by omega) rfl
          have i3 : ∀ W, (Instr.indexAt 26 (.slice a na cr) (.int .i64 (j : Int))).run Tryz.prog W = .ok (.pointer (some ⟨g, o, none⟩)) W := by rw [<- hg]; exact run_indexAt_adr slRat a na cr .i64 j hda (by omega)
          have bx := Bx.new wr #[.bool false, .slice none 0 0, .slice none 0 0] 41
          obtain ⟨Z, hZ⟩ : ∃ Z, mz X ao hs = Z := ⟨_, rfl⟩
          have hZ' := hid hZ
          rw [hZ] at hXz hsr hOr hun
          have hjs : Hid ((mix x z j).set j x[j] = mix x z (j + 1)) := hid (mix_set hxz.out hjx)
          have hadd0 : Hid (x[j] + 0 = x[j]) := hid (Rat.add_zero _)
          have hhdr := (hM.hdr i hih).1
          rw [hhd'.out] at hhdr
          dsimp only at hhdr
          clear hZ k00
          go_wp2_with (first | (with_reducible refine up_ixn slRat (by omega) (by assumption) ?_) | ((with_reducible show wpList _ _ _ (⟨_, .load _ _, _, _, _, _⟩ :: _) _ _); refine st_loadElem stRat j hsr hjx rfl (by simp) QV.agg ?_; intro u5 hu5; obtain ⟨s5, a5, n5, c5, d5, k5, e5, rfl⟩ := hu5.shape) | ((with_reducible show wpList _ _ _ (⟨_, .store _ _ _, _, _, _, _⟩ :: _) _ _); refine st_storeBox stRat rfl rfl bx rfl rfl (one3 _ _ _ _ _ _ _) ?_; intro w5 r1 r2))
          have hE5 : Ext wr w5 := ExtX.box ((ExtX.refl wr).alloc _) r2 (Nat.le_refl _)
          have hEd : Ext w5 w5.drew := (ExtX.refl w5).drew
          have hM5 := hM.ext0 hE5
          have hO5 := hOr.ext0 QC.elem hE5
          have hx5 : QV (mk Z w5.drew) (.agg #[.bool s5, .slice a5 n5 c5, .slice d5 k5 e5]) x[j] := mkx QV.mono hu5 (hE5.trans hEd)
          have h00 : QV (mk Z w5.drew) (.agg #[.bool false, .slice none 0 0, .slice none 0 0]) 0 := (QC.zero _).qv (by rw [hq_zero]; decide)
          have hXd : HX Z w5.drew := hXz.ext (hE5.trans hEd)
          have hS : Hid (∀ Y W', ExtX Y w5.drew W' -> Y (adr ao i).block = false -> Y wr.heap.size = false -> W'.cell? (adr ao i) = some (.slice a na cr) /\ W'.cell? ⟨wr.heap.size, 0, none⟩ = some (.bool s5) /\ W'.cell? ⟨wr.heap.size, 1, none⟩ = some (.slice a5 n5 c5) /\ W'.cell? ⟨wr.heap.size, 2, none⟩ = some (.slice d5 k5 e5)) := hid fun Y W' h hy1 hy2 => by
            have b1 := (r1.ext0 hEd).ext h hy2
            exact ⟨h.cellY ((hE5.trans hEd).cell hhdr) hy1, b1.cell 0 rfl, b1.cell 1 rfl, b1.cell 2 rfl⟩
          obtain ⟨k20, k30, k31, k32⟩ := hS.out noY w5.drew (ExtX.refl _) rfl rfl
          obtain ⟨bw, hbw⟩ : ∃ bw, wr.heap.size = bw := ⟨_, rfl⟩
          rw [hbw] at hS k30 k31 k32 hbnew |-
          clear hhdr r1 bx
          go_wp2_with fail
          go_region_held3 (fun w' => w'.cell? (adr ao i) = some (.slice a na cr) /\ w'.cell? ⟨bw, 0, none⟩ = some (.bool s5) /\ w'.cell? ⟨bw, 1, none⟩ = some (.slice a5 n5 c5) /\ w'.cell? ⟨bw, 2, none⟩ = some (.slice d5 k5 e5))
            (first | exact hS.out noY _ t1 rfl rfl | exact hS.out (ob a) _ ((ExtX.of t1).trans hset.2) hbsep.out hbnew.out | go_keep)
            ((go_at_call 182; (with_reducible refine (qadd Z w5.drew _ _ _ 0 hXd hx5 h00).mono ?_); rintro ee w6 ⟨t1, u6, rfl, hu6⟩; obtain ⟨s6, a6, n6, c6, d6, k6, e6, rfl⟩ := hu6.shape; rw [hadd0.out] at hu6; have hO6 := hO5.ext0 QC.elem (hEd.trans t1); obtain ⟨_, v0, v1, v2, _, ⟨g0, f0⟩, ⟨g1, f1⟩, ⟨g2, f2⟩, _⟩ := hO6.cell3 j (by rw [hjl.out]; exact hlj) hg; have hset := hO6.set3 tyRat QC.elem j (by rw [hjl.out]; exact hlj) hg (v0 := .bool s6) (v1 := .slice a6 n6 c6) (v2 := .slice d6 k6 e6) (x := x[j]) (by rw [hun.out]; exact hu6)))
          obtain ⟨q1, q2⟩ := hset
          rw [hjs.out] at q1
          have q2' : ExtX (ob hs[i].1) w6 (((w6.setCell ⟨g, o, none⟩ (.bool s6)).setCell ⟨g, o + 1, none⟩ (.slice a6 n6 c6)).setCell ⟨g, o + 2, none⟩ (.slice d6 k6 e6)) := by rw [hhd'.out]; exact q2
          have hM6 := hM5.ext0 (hEd.trans t1)
          have hM7 := hM6.upd hih (l := mix x z (j + 1)) q2' (fun hi' => by rw [List.getElem_set_self, mix_len hxz.out, mix_len hxz.out]) (by rw [hZ'.out, hhd'.out]; exact q1)
          rw [List.set_set] at hM7
          have hE7 := hM6.ext_from ((hE.trans hE5).trans (hEd.trans t1)) (Nat.le_refl _) (ExtX.row hih q2')
          clear k20 k30 k31 k32 g0 g1 g2 f0 f1 f2 i2 i3
          go_wp2_with fail
          go_roundw
          case rel => exact ⟨j + 1, by go_num, by omega, hM7, hE7⟩
          case measure => simp [intOf]; omega
        · have hjn : j = na := by omega
          subst hjn
          rw [mix_full (a := x) (b := z) (by rw [hxl.out]; exact Nat.le_refl _) (by rw [hzl.out]; exact Nat.le_refl _), hfin.out] at hM
          go_wp2_with fail
          go_roundw
          case rel => exact ⟨i + 1, by go_num, by omega, hM, hE⟩
          case measure => simp [intOf]; omega
    · have hin : i = n := by omega
      subst hin
      rw [mix_full (by rw [hml.out]; exact Nat.le_refl _) (by rw [hAl.out]; exact Nat.le_refl _)] at hM
      go_wp2_with fail
      go_ret
      exact ⟨hE, ao, cap, hs, by rw [hml.out]; rfl, hM⟩
end Go.Proofs.YtnnpfhoigmegcaaGreat
namespace Go.Rep
open Go.RowKit Go.Lim
section
variable {P : Program} {ops : Array Oper} {Q : Exit -> Act -> World -> Prop} {rest : List Oper} {a : Act} {w : World}
variable {α : Type} {R : Mem -> Value -> α -> Prop} {sz : Nat} {X : Nat -> Bool} {base : Nat} {e : TypeId} {ao : Option Addr} {cap : Nat} {l : List α}
variable {d : Option Tmp} {ty : TypeId} {ps : String} {af : Array Edge}
theorem st_loadOL {t : TypeId} {x : Operand} {k : Nat} (hT : StructT P t sz) (i : Nat) (h : OL R sz X base e w ao cap l) (hi : i < l.length) (hx : a.eval x = .pointer (some (adr ao k))) (hk : k = i * sz) (hag : ∀ h u y, R h u y -> ∃ cs, u = .agg cs)
    (K : ∀ u, R (mk (un X ao) w) u l[i] -> wpList P ops Q rest (a.put d u) w) :
    wpList P ops Q (⟨d, .load t x, ty, ps, af, none⟩ :: rest) a w := by
  refine wpList_plain rfl fun K' hK' => ?_
  subst hk
  obtain ⟨fs, ti, h1, h2, h3⟩ := hT
  obtain ⟨us, p1, p2, _, p3, p5⟩ := h.cells
  have hi' : i < us.length := by omega
  have h6 := p5 i hi' hi
  obtain ⟨cs, hcs⟩ := hag _ _ _ h6
  have hsz : cs.toList.length = sz := by have := p2 us[i] (List.getElem_mem _); rw [hcs] at this; simpa [Value.cells] using this
  have hl := run_loadCells_list (P := P) w (adr ao (i * sz)) cs.toList (fun j v hj => by
    rw [adr_add]
    have hj1 : j < sz := by rw [<- hsz]; exact (List.getElem?_eq_some_iff.1 hj).1
    have hget := flat_get us i j hi' p2 hj1
    rw [hcs] at hget
    have hj2 : (cellsL (.agg cs))[j]? = some v := by simpa [cellsL, Value.cells] using hj
    rw [hj2] at hget
    exact (p3 _ _ hget).1)
  rw [hsz] at hl
  unfold Oper.wp
  simp [execOp, hx, Instr.loadAt, Instr.sureAddr, loadVar, isAgg, run_underlying h1, sizeOf, typeInfo, h2, h3, hl, Result.andThen]
  rw [hcs] at h6
  exact hK' _ _ (K _ h6)
end
theorem OL.rat {R : Mem -> Value -> Rat -> Prop} (hR : Shaped R) {X : Nat -> Bool} {base : Nat} {e : TypeId} {w : World} {ao : Option Addr} {cap : Nat} {l : List Rat} (h : OL R 3 X base e w ao cap l) (i : Nat) (hi : i < l.length) :
    ∃ g o sg a n c d k e, adr ao (i * 3) = ⟨g, o, none⟩ /\ ob ao g = true /\ Hid (∀ Y W', ExtX Y w W' -> Y g = false -> W'.cell? ⟨g, o, none⟩ = some (.bool sg) /\ W'.cell? ⟨g, o + 1, none⟩ = some (.slice a n c) /\ W'.cell? ⟨g, o + 2, none⟩ = some (.slice d k e)) /\ R (mk (un X ao) w) (.agg #[.bool sg, .slice a n c, .slice d k e]) l[i] := by
  obtain ⟨b0, o0, hb0⟩ := h.hd (by omega)
  have hg : adr ao (i * 3) = ⟨b0, o0 + i * 3, none⟩ := by rw [hb0]; rfl
  obtain ⟨u, v0, v1, v2, hu, ⟨h0, _⟩, ⟨h1, _⟩, ⟨h2, _⟩, h3⟩ := h.cell3 i hi hg
  obtain ⟨sg, a, n, c, d, k, e, rfl⟩ := hR _ _ _ h3
  simp only [cellsL, Value.cells, List.cons.injEq, and_true] at hu
  obtain ⟨rfl, rfl, rfl⟩ := hu
  exact ⟨_, _, sg, a, n, c, d, k, e, hg, by rw [hb0]; simp [ob], hid fun Y W' hE hY => ⟨hE.cellY h0 hY, hE.cellY h1 hY, hE.cellY h2 hY⟩, h3⟩
end Go.Rep
namespace Go.Proofs.YtnnpfhoigmegcaaGreat
open Go.RowKit Go.Rep Go.Lim Go.Lin
def M2Out (X : Nat -> Bool) (w : World) (m : List (List Rat)) (e : Ending) (w' : World) : Prop := Ext w w' /\ ∃ u, e = .returned (.tuple #[u, .int .i64 0]) /\ MC (mk X w') u m
end Go.Proofs.YtnnpfhoigmegcaaGreat
namespace Go.Proofs.YtnnpfhoigmegcaaGreat
open Go.RowKit Go.Rep Go.Lim Go.Lin
end Go.Proofs.YtnnpfhoigmegcaaGreat
namespace Go.Lin
open Go.Lim
theorem bm_hb {B : Nat} {m : Mat} (h : Go.Rep.BM B m) (hB : 1 <= B) : HB B m := fun i j => by
  unfold ent
  by_cases hi : i < m.length
  · have e : m.getD i [] = m[i] := by simp [List.getD_eq_getElem?_getD, hi]
    rw [e]
    by_cases hj : j < (m[i]).length
    · have := h m[i] (List.getElem_mem _) (m[i])[j] (List.getElem_mem _)
      simpa [List.getD_eq_getElem?_getD, hj] using this
    · rw [List.getD_eq_getElem?_getD, List.getElem?_eq_none (by omega)]
      show hq 0 <= B
      rw [hq_zero]; exact hB
  · rw [List.getD_eq_getElem?_getD (l := m), List.getElem?_eq_none (by omega)]
    show hq 0 <= B
    rw [hq_zero]; exact hB
theorem hb_bm {B : Nat} {m : Mat} (h : HB B m) : Go.Rep.BM B m := fun r hr q hq => by
  obtain ⟨i, hi, rfl⟩ := List.getElem_of_mem hr
  obtain ⟨j, hj, rfl⟩ := List.getElem_of_mem hq
  have := h i j
  simpa [ent, List.getD_eq_getElem?_getD, hi, hj] using this
end Go.Lin
namespace Go.Proofs.YtnnpfhoigmegcaaGreat
open Go.RowKit Go.Rep Go.Lim Go.Lin
end Go.Proofs.YtnnpfhoigmegcaaGreat
namespace Go.Lin
open Go.Lim
end Go.Lin
namespace Go.Proofs.YtnnpfhoigmegcaaGreat
open Go.RowKit Go.Rep Go.Lim Go.Lin
def EOut (Z : Nat -> Bool) (base : Nat) (e : TypeId) (w : World) (a : Option Addr) (cap : Nat) (l : List Rat) (ee : Ending) (w' : World) : Prop := ee = .returned (.tuple #[]) /\ ExtX (ob a) w w' /\ OL QC 3 (cut Z a) base e w' a cap l
set_option maxRecDepth 100000 in
set_option maxHeartbeats 1600000 in
theorem eliminate_any (Z : Nat -> Bool) (base : Nat) (w : World) (a1 a2 : Option Addr) (c1 c2 n col : Nat) (row piv : List Rat) (hX : HX Z w) (h1 : OL QC 3 (cut Z a1) base 41 w a1 c1 row) (h2 : OL QC 3 (cut Z a2) base 41 w a2 c2 piv)
    (hz1 : ∀ k, ob a1 k = true -> Z k = true) (hz2 : ∀ k, ob a2 k = true -> Z k = true) (hdis : ∀ k, ob a1 k = true -> ob a2 k = false) (hl1 : row.length = n) (hl2 : piv.length = n) (hn : n <= 1000) (hcol : col < n)
    (hb1 : BR 68719476736 row) (hb2 : BR 68719476736 piv) (hb3 : hq (row.getD col 0 / piv.getD col 0) <= 68719476736) (hb4 : ∀ x ∈ piv, hq (row.getD col 0 / piv.getD col 0 * x) <= 68719476736) :
    Calls Tryz.prog 321 #[.slice a1 n c1, .slice a2 n c2, .int .i64 (col : Int)] w (EOut Z base 41 w a1 c1 (elimL row piv col)) := by
  have hu1 := hid (un_cut hz1)
  have hu2 := hid (un_cut hz2)
  have hdis2 : ∀ k, ob a2 k = true -> ob a1 k = false := fun k hk => by
    cases hb : ob a1 k
    · rfl
    · rw [hdis k hb] at hk; simp at hk
  have hd1 : Hd a1 n := by have := h1.hd; rw [hl1] at this; exact this
  have hd2 : Hd a2 n := by have := h2.hd; rw [hl2] at this; exact this
  have hc1r : col < row.length := by omega
  have hc2r : col < piv.length := by omega
  have g1 : Hid (row.getD col 0 = row[col]) := hid (by simp [List.getD_eq_getElem?_getD, hc1r])
  have g2 : Hid (piv.getD col 0 = piv[col]) := hid (by simp [List.getD_eq_getElem?_getD, hc2r])
  obtain ⟨E, hE⟩ : ∃ E, elimL row piv col = E := ⟨_, rfl⟩
  have hEl : Hid (E.length = n) := hid (by rw [<- hE, elimL_len _ _ _ (by omega)]; exact hl2)
  have hEi : Hid (∀ j (hj : j < row.length) (hj2 : j < piv.length) (hj3 : j < E.length), E[j] = row[j] - (row.getD col 0 / piv.getD col 0) * piv[j]) := hid fun j hj hj2 hj3 => by subst hE; simp [elimL]
  have hE0 : Hid (row.getD col 0 / piv.getD col 0 = 0 -> E = row) := hid fun h => by rw [<- hE]; exact elimL_zero _ _ _ (by omega) h
  have hrE : Hid (E.length = row.length) := hid (by rw [hEl.out, hl1])
  have hl1' := hid hl1
  have hl2' := hid hl2
  have hb1' := hid hb1
  have hb2' := hid hb2
  obtain ⟨f, hf⟩ : ∃ f, row.getD col 0 / piv.getD col 0 = f := ⟨_, rfl⟩
  rw [hf] at hb3 hE0 hEi hb4
  have hb3' := hid hb3
  have hb4' := hid hb4
  have hff : Hid (row[col] / piv[col] = f) := hid (by rw [<- g1.out, <- g2.out]; exact hf)
  rw [hE]
  obtain ⟨gg1, oo1, s1, p1, n1, q1, d1, k1, e1, hg1, hog1, hcc1, hr1⟩ := h1.rat QC.shaped col hc1r
  obtain ⟨gg2, oo2, s2, p2, n2, q2, d2, k2, e2, hg2, hog2, hcc2, hr2⟩ := h2.rat QC.shaped col hc2r
  rw [hu1.out] at hr1
  rw [hu2.out] at hr2
  have i1 : ∀ W, (Instr.indexAt 26 (.slice a1 n c1) (.int .i64 (col : Int))).run Tryz.prog W = .ok (.pointer (some ⟨gg1, oo1, none⟩)) W := by rw [<- hg1]; exact run_indexAt_adr slRat a1 n c1 .i64 col hd1 hcol
  have i2 : ∀ W, (Instr.indexAt 26 (.slice a2 n c2) (.int .i64 (col : Int))).run Tryz.prog W = .ok (.pointer (some ⟨gg2, oo2, none⟩)) W := by rw [<- hg2]; exact run_indexAt_adr slRat a2 n c2 .i64 col hd2 hcol
  have hEd : Ext w w.drew := (ExtX.refl w).drew
  have hS : Hid (∀ Y W', ExtX Y w.drew W' -> Y gg1 = false -> Y gg2 = false -> W'.cell? ⟨gg1, oo1, none⟩ = some (.bool s1) /\ W'.cell? ⟨gg1, oo1 + 1, none⟩ = some (.slice p1 n1 q1) /\ W'.cell? ⟨gg1, oo1 + 2, none⟩ = some (.slice d1 k1 e1) /\ W'.cell? ⟨gg2, oo2, none⟩ = some (.bool s2) /\ W'.cell? ⟨gg2, oo2 + 1, none⟩ = some (.slice p2 n2 q2) /\ W'.cell? ⟨gg2, oo2 + 2, none⟩ = some (.slice d2 k2 e2)) := hid fun Y W' h hy1 hy2 => by
    have z1 := hcc1.out Y W' ((ExtX.of hEd).trans h) hy1
    have z2 := hcc2.out Y W' ((ExtX.of hEd).trans h) hy2
    exact ⟨z1.1, z1.2.1, z1.2.2, z2.1, z2.2.1, z2.2.2⟩
  obtain ⟨k00, k01, k02, k10, k11, k12⟩ := hS.out noY w.drew (ExtX.refl _) rfl rfl
  have hlt1 : gg1 < w.heap.size := cell_lt k00
  have hlt2 : gg2 < w.heap.size := cell_lt k10
  have hXd : HX Z w.drew := hX
  have hx1 : QV (mk Z w.drew) (.agg #[.bool s1, .slice p1 n1 q1, .slice d1 k1 e1]) row[col] := hr1.qv (hb1'.out _ (List.getElem_mem _))
  have hx2 : QV (mk Z w.drew) (.agg #[.bool s2, .slice p2 n2 q2, .slice d2 k2 e2]) piv[col] := hr2.qv (hb2'.out _ (List.getElem_mem _))
  obtain ⟨ec, hec⟩ : ∃ ec, e5 (decide (piv[col] = 0)) = ec := ⟨_, rfl⟩
  have qd := qdiv Z w.drew _ _ _ _ hXd hx1 hx2
  rw [hec, hff.out] at qd
  have hEA : Ext w.drew (w.alloc (.cells #[.bool false, .slice none 0 0, .slice none 0 0] 41)).drew := ⟨rfl, rfl, rfl, ((ExtX.refl (Y := noY) w).alloc _).size, ((ExtX.refl (Y := noY) w).alloc _).block⟩
  have bA : Bx (w.alloc (.cells #[.bool false, .slice none 0 0, .slice none 0 0] 41)).drew w.heap.size #[.bool false, .slice none 0 0, .slice none 0 0] 41 := Bx.new w _ _
  have hEA2 : Ext w (w.alloc (.cells #[.bool false, .slice none 0 0, .slice none 0 0] 41)).drew := hEd.trans hEA
  have hXA : HX (un Z (some ⟨w.heap.size, 0, none⟩)) (w.alloc (.cells #[.bool false, .slice none 0 0, .slice none 0 0] 41)).drew := fun k hk => by
    have h9 : (w.alloc (.cells #[.bool false, .slice none 0 0, .slice none 0 0] 41)).drew.heap.size = w.heap.size + 1 := by show (w.alloc _).heap.size = _; simp
    rw [h9]
    by_cases hz : Z k = true
    · have := hX k hz; omega
    · have : w.heap.size = k := by simpa [un, hz, ob] using hk
      omega
  have hnewb : ∀ j, j < w.heap.size -> ob (some ⟨w.heap.size, 0, none⟩) j = false := fun j hj => ob_other (by omega)
  have qdA := qdiv (un Z (some ⟨w.heap.size, 0, none⟩)) (w.alloc (.cells #[.bool false, .slice none 0 0, .slice none 0 0] 41)).drew _ _ _ _ hXA (old_un (w := w) QV.mono hx1 hEA2 hnewb) (old_un (w := w) QV.mono hx2 hEA2 hnewb)
  rw [hec, hff.out] at qdA
  clear hg1 hg2 hcc1 hcc2 hr1 hr2 hf hE hl1 hl2 hb1 hb2 hb3 hb4 hec
  go_enter Tryz.func321, Tryz.ntmps321
  go_upto_region 0 with (fail)
  go_cut [6, 7] from 10 to 21 (fun b6 _ wx => ∃ bf s a n' c d k e, b6 = .pointer (some ⟨bf, 0, none⟩) /\ Bx wx bf #[.bool s, .slice a n' c, .slice d k e] 41 /\ w.heap.size <= bf /\ QC (mk Z wx) (.agg #[.bool s, .slice a n' c, .slice d k e]) f /\ Ext w wx)
  case first =>
    go_region_held3 (fun w' => w'.cell? ⟨gg1, oo1, none⟩ = some (.bool s1) /\ w'.cell? ⟨gg1, oo1 + 1, none⟩ = some (.slice p1 n1 q1) /\ w'.cell? ⟨gg1, oo1 + 2, none⟩ = some (.slice d1 k1 e1) /\ w'.cell? ⟨gg2, oo2, none⟩ = some (.bool s2) /\ w'.cell? ⟨gg2, oo2 + 1, none⟩ = some (.slice p2 n2 q2) /\ w'.cell? ⟨gg2, oo2 + 2, none⟩ = some (.slice d2 k2 e2))
      (first | exact hS.out noY _ t1 rfl rfl | exact hS.out noY _ (ExtX.alloc t1 _) rfl rfl | exact hS.out noY _ hEA rfl rfl | exact hS.out noY _ (hEA.trans t2) rfl rfl | exact hS.out (ob (some ⟨w.heap.size, 0, none⟩)) _ ((ExtX.of (hEA.trans t2)).trans hst.2) (ob_other (by omega)) (ob_other (by omega)) | exact hS.out (ob (some ⟨w6.heap.size, 0, none⟩)) _ ((ExtX.of (t1.alloc _)).trans hst.2) (ob_other (by have := t1.size; have h9 : w.drew.heap.size = w.heap.size := rfl; omega)) (ob_other (by have := t1.size; have h9 : w.drew.heap.size = w.heap.size := rfl; omega)) | go_keep)
      (first | (go_at_call 236; (with_reducible refine qd.mono ?_); rintro ee w6 ⟨t1, u6, rfl, hu6⟩; obtain ⟨s6, a6, n6, c6, d6, k6, e6, rfl⟩ := hu6.shape; have hst := (Bx.new w6 #[.bool false, .slice none 0 0, .slice none 0 0] 41).set3 (.bool s6) (.slice a6 n6 c6) (.slice d6 k6 e6)) | (go_at_call 236; (with_reducible refine qdA.mono ?_); rintro ee w6 ⟨t2, u6, rfl, hu6⟩; obtain ⟨s6, a6, n6, c6, d6, k6, e6, rfl⟩ := hu6.shape; have bb := bA.ext0 t2; have y0 := bb.cell 0 rfl; have y1 := bb.cell 1 rfl; have y2 := bb.cell 2 rfl; have z0 := bb.frozen 0; have z1 := bb.frozen 1; have z2 := bb.frozen 2; have hst := bb.set3 (.bool s6) (.slice a6 n6 c6) (.slice d6 k6 e6)))
    · clear k00 k01 k02 k10 k11 k12
      go_wp2_with fail
      go_meet
      case rel => exact ⟨w6.heap.size, _, _, _, _, _, _, _, rfl, Bx.new w6 _ _, (hEd.trans t1).size, QC.mono _ _ _ _ (mk_ext ((ExtX.refl w6).alloc _)) hu6, (hEd.trans t1).alloc _⟩
    · have hq7 := QC.mono _ _ _ _ (mk_sub (X := Z) fun k _ hk => un_left hk) (QC.mono _ _ _ _ (mk_mono hst.2 fun k hk => un_right hk) hu6)
      have hE7 : Ext w _ := ExtX.box (hEA2.trans t2) hst.2 (Nat.le_refl _)
      clear k00 k01 k02 k10 k11 k12 y0 y1 y2 z0 z1 z2
      go_wp2_with fail
      go_meet
      case rel => exact ⟨w.heap.size, _, _, _, _, _, _, _, rfl, hst.1, Nat.le_refl _, hq7, hE7⟩
  case rest =>
    obtain ⟨bf, sf, af, nf, cf, df, kf, ef, rfl, b6, hbf, hqf, hEw⟩ := hcut
    clear k00 k01 k02 k10 k11 k12 i1 i2 qd qdA hS bA hEA hEA2
    have hXc := hX.ext hEw
    have h1c := h1.ext0 QC.elem hEw
    have h2c := h2.ext0 QC.elem hEw
    have f0 := b6.cell 0 rfl
    have f1 := b6.cell 1 rfl
    have f2 := b6.cell 2 rfl
    have hqv := hqf.qv hb3'.out
    by_cases h0 : f = 0
    · have hr := hid (hE0.out h0)
      have hs0 : Hid (f.num.sign = 0) := hid (by rw [h0]; rfl)
      clear h0
      go_wp2_with fail
      refine (qsign Z wc _ f hXc hqv).mono ?_
      rintro e w7 ⟨hE7, rfl⟩
      rw [hs0.out]
      clear f0 f1 f2
      go_wp2_with fail
      refine bodyPost_ret (results_none rfl _ _ _) rfl ?_
      exact ⟨rfl, ExtX.of (hEw.trans hE7), by rw [hr.out]; exact h1c.ext0 QC.elem hE7⟩
    · have hs0 : ((f.num.sign : Int) == 0) = false := beqF (by intro h; exact h0 (Rat.num_eq_zero.1 (Int.sign_eq_zero_iff_zero.1 h)))
      clear h0
      go_wp2_with fail
      refine (qsign Z wc _ f hXc hqv).mono ?_
      rintro e w7 ⟨hE7, rfl⟩
      have b7 := b6.ext0 hE7
      have hqf7 := mkx QV.mono hqv hE7
      have hE07 := hEw.trans hE7
      have h17 := h1c.ext0 QC.elem hE7
      have h27 := h2c.ext0 QC.elem hE7
      clear f0 f1 f2 b6
      go_wp2_with fail
      go_loopw [27] (fun k wr => ∃ (j : Nat), k = .int .i64 j /\ j <= n /\ OL QC 3 (cut Z a1) base 41 wr a1 c1 (mix E row j) /\ OL QC 3 (cut Z a2) base 41 wr a2 c2 piv /\ Bx wr bf #[.bool sf, .slice af nf cf, .slice df kf ef] 41 /\ QV (mk Z wr) (.agg #[.bool sf, .slice af nf cf, .slice df kf ef]) f /\ ExtX (ob a1) w wr) (fun k _ => n - (intOf k).toNat)
      case atStart => exact ⟨0, rfl, Nat.zero_le _, by rw [mix_zero]; exact h17, h27, b7, hqf7, ExtX.of hE07⟩
      case round =>
        obtain ⟨j, rfl, hj, hO1, hO2, b7, hqf7, hE⟩ := hrel
        have hXr := hX.ext hE
        by_cases hlj : j < n
        · have hjr : j < row.length := by rw [hl1'.out]; exact hlj
          have hjp : j < piv.length := by rw [hl2'.out]; exact hlj
          have hjE : j < E.length := by rw [hEl.out]; exact hlj
          have hml : Hid ((mix E row j).length = n) := hid (by rw [mix_len hrE.out, hEl.out])
          have hjm : j < (mix E row j).length := by rw [hml.out]; exact hlj
          have hmg : Hid ((mix E row j)[j] = row[j]) := hid (by rw [mix_getElem hrE.out, if_neg (by omega)])
          have hjs : Hid ((mix E row j).set j E[j] = mix E row (j + 1)) := hid (mix_set hrE.out hjE)
          have hEj : Hid (row[j] - f * piv[j] = E[j]) := hid (hEi.out j hjr hjp hjE).symm
          have hbp := hid (hb2'.out piv[j] (List.getElem_mem _))
          have hbr := hid (hb1'.out row[j] (List.getElem_mem _))
          have hbm := hid (hb4'.out piv[j] (List.getElem_mem _))
          obtain ⟨x, hx⟩ : ∃ x, piv[j] = x := ⟨_, rfl⟩
          obtain ⟨y, hy⟩ : ∃ y, row[j] = y := ⟨_, rfl⟩
          obtain ⟨v, hv⟩ : ∃ v, E[j] = v := ⟨_, rfl⟩
          obtain ⟨r, hr⟩ : ∃ r, mix E row j = r := ⟨_, rfl⟩
          obtain ⟨gg, oo, sg, ap, np, cp, dp, kp, ep, hg, hog, hcc, hrr⟩ := hO1.rat QC.shaped j hjm
          rw [hmg.out, hy, hu1.out] at hrr
          rw [hx, hy, hv] at hEj
          rw [hx] at hbp hbm
          rw [hy] at hbr
          rw [hv, hr] at hjs
          rw [hr] at hO1 hjm hml
          have hxp := hid hx
          have i1 : ∀ W, (Instr.indexAt 26 (.slice a1 n c1) (.int .i64 (j : Int))).run Tryz.prog W = .ok (.pointer (some ⟨gg, oo, none⟩)) W := by rw [<- hg]; exact run_indexAt_adr slRat a1 n c1 .i64 j hd1 (by omega)
          have bx := Bx.new wr #[.bool false, .slice none 0 0, .slice none 0 0] 41
          clear hx hy hv hr hmg
          go_wp2_with (first | (with_reducible refine up_ixn slRat (by omega) (by assumption) ?_) | ((with_reducible show wpList _ _ _ (⟨_, .load _ _, _, _, _, _⟩ :: _) _ _); refine st_loadOL stRat j hO2 hjp rfl (by simp) QC.agg ?_; intro u5 hu5; rw [hxp.out, hu2.out] at hu5; obtain ⟨s5, a5, n5, c5, d5, k5, e5, rfl⟩ := hu5.shape) | ((with_reducible show wpList _ _ _ (⟨_, .store _ _ _, _, _, _, _⟩ :: _) _ _); refine st_storeBox stRat rfl rfl bx rfl rfl (one3 _ _ _ _ _ _ _) ?_; intro w5 r1 r2))
          have hE5 : Ext wr w5 := ExtX.box ((ExtX.refl wr).alloc _) r2 (Nat.le_refl _)
          have hEd : Ext w5 w5.drew := (ExtX.refl w5).drew
          have hE5d := hE5.trans hEd
          have hO5 := hO1.ext0 QC.elem hE5d
          have hP5 := hO2.ext0 QC.elem hE5d
          have b5 := b7.ext0 hE5d
          have hx5 : QV (mk Z w5.drew) (.agg #[.bool s5, .slice a5 n5 c5, .slice d5 k5 e5]) x := (mkx QC.mono hu5 hE5d).qv hbp.out
          have hy5 : QV (mk Z w5.drew) (.agg #[.bool sg, .slice ap np cp, .slice dp kp ep]) y := (mkx QC.mono hrr hE5d).qv hbr.out
          have hf5 : QV (mk Z w5.drew) (.agg #[.bool sf, .slice af nf cf, .slice df kf ef]) f := mkx QV.mono hqf7 hE5d
          have hXd : HX Z w5.drew := hXr.ext hE5d
          obtain ⟨bw, hbw⟩ : ∃ bw, wr.heap.size = bw := ⟨_, rfl⟩
          have hab : Hid (ob a1 bw = false) := hid (by rw [<- hbw]; exact hO1.ob_ge (Nat.le_refl _))
          have haf : Hid (ob a1 bf = false) := hid (by
            cases hb : ob a1 bf
            · rfl
            · have := (h1.block hb).2; omega)
          rw [hbw] at r1
          have hS : Hid (∀ Y W', ExtX Y w5.drew W' -> Y gg = false -> Y bf = false -> Y bw = false -> W'.cell? ⟨gg, oo, none⟩ = some (.bool sg) /\ W'.cell? ⟨gg, oo + 1, none⟩ = some (.slice ap np cp) /\ W'.cell? ⟨gg, oo + 2, none⟩ = some (.slice dp kp ep) /\ W'.cell? ⟨bf, 0, none⟩ = some (.bool sf) /\ W'.cell? ⟨bf, 1, none⟩ = some (.slice af nf cf) /\ W'.cell? ⟨bf, 2, none⟩ = some (.slice df kf ef) /\ W'.cell? ⟨bw, 0, none⟩ = some (.bool s5) /\ W'.cell? ⟨bw, 1, none⟩ = some (.slice a5 n5 c5) /\ W'.cell? ⟨bw, 2, none⟩ = some (.slice d5 k5 e5)) := hid fun Y W' h hy1 hy2 hy3 => by
            have z1 := hcc.out Y W' ((ExtX.of hE5d).trans h) hy1
            have z2 := b5.ext h hy2
            have z3 := (r1.ext0 hEd).ext h hy3
            exact ⟨z1.1, z1.2.1, z1.2.2, z2.cell 0 rfl, z2.cell 1 rfl, z2.cell 2 rfl, z3.cell 0 rfl, z3.cell 1 rfl, z3.cell 2 rfl⟩
          obtain ⟨k00, k01, k02, k10, k11, k12, k20, k21, k22⟩ := hS.out noY w5.drew (ExtX.refl _) rfl rfl rfl
          have hR5 := r1.ext0 hEd
          clear r1 bx hcc
          rw [hbw]
          go_wp2_with fail
          go_region_with (first | (go_at_call 151; (with_reducible refine (qmul Z w5.drew _ _ _ _ hXd hf5 hx5).mono ?_); rintro ee w6 ⟨t1, u6, rfl, hu6⟩; obtain ⟨s6, a6, n6, c6, d6, k6, e6, rfl⟩ := hu6.shape; have hX6 := hXd.ext t1; have hy6 := mkx QV.mono hy5 t1; have hm6 := hu6.qv hbm.out; obtain ⟨m0, m1, m2, _⟩ := hS.out noY w6 t1 rfl rfl rfl) | (go_at_call 153; (with_reducible refine (qsub Z w6 _ _ _ _ hX6 hy6 hm6).mono ?_); rintro ee w7 ⟨t7, u7, rfl, hu7⟩; obtain ⟨s7, a7, n7, c7, d7, k7, e7, rfl⟩ := hu7.shape; rw [hEj.out] at hu7; have t2 := t1.trans t7; have hO7 := hO5.ext0 QC.elem t2; obtain ⟨_, v0, v1, v2, _, ⟨g0, f0⟩, ⟨g1, f1⟩, ⟨g2, f2⟩, _⟩ := hO7.cell3 j hjm hg; have hset := hO7.set3 tyRat QC.elem j hjm hg (v0 := .bool s7) (v1 := .slice a7 n7 c7) (v2 := .slice d7 k7 e7) (x := v) (by rw [hu1.out]; exact hu7)))
          all_goals
            obtain ⟨q1, q2⟩ := hset
            rw [hjs.out] at q1
            have hP8 := (hP5.ext0 QC.elem t2).ext QC.elem q2 (fun k _ hk => cut_mk (hz1 k hk) (hdis k hk)) (fun _ _ hk => hk)
            have b8 := (b5.ext0 t2).ext q2 haf.out
            have hf8 : QV (mk Z _) _ _ := QV.mono _ _ _ _ (mk_mono q2 hz1) (mkx QV.mono hf5 t2)
            have hE8 := (hE.trans (ExtX.of (hE5d.trans t2))).trans q2
            clear k00 k01 k02 k10 k11 k12 k20 k21 k22 m0 m1 m2 g0 g1 g2 f0 f1 f2 i1
            go_wp2_with fail
            go_roundw
            case rel => exact ⟨j + 1, by go_num, by omega, q1, hP8, b8, hf8, hE8⟩
            case measure => simp [intOf]; omega
        · have hjn : j = n := by omega
          subst hjn
          rw [mix_full (by rw [hEl.out]; exact Nat.le_refl _) (by rw [hl1'.out]; exact Nat.le_refl _)] at hO1
          go_wp2_with fail
          go_end0
          exact ⟨rfl, hE, hO1⟩
end Go.Proofs.YtnnpfhoigmegcaaGreat
namespace Go.Lin
def idxI : Option Nat -> Int
  | none => -1
  | some k => k
end Go.Lin
namespace Go.Proofs.YtnnpfhoigmegcaaGreat
open Go.RowKit Go.Rep Go.Lim Go.Lin
theorem closure_any (X : Nat -> Bool) (w : World) (a : Option Addr) (l : List Rat) (n c col b : Nat) (hX : HX X w) (hs : Sl QC 3 (mk X w) a l) (hl : l.length = n) (hcol : col < n) (hB : BR 68719476736 l) (hb : w.cell? ⟨b, 0, none⟩ = some (.int .i64 (col : Int))) :
    Calls Tryz.prog 320 #[.slice a n c, .pointer (some ⟨b, 0, none⟩)] w (BOut w (decide (l.getD col 0 ≠ 0))) := by
  have hh : Hd a n := by have := hs.hd; rw [hl] at this; exact this
  have hcl : col < l.length := by omega
  have hsv := hs.qv hB
  obtain ⟨x, hx⟩ : ∃ x, l[col] = x := ⟨_, rfl⟩
  have hg : Hid (l.getD col 0 = x) := hid (by simp [List.getD_eq_getElem?_getD, hcl, hx])
  have hx' := hid hx
  clear hl hB hx
  rw [hg.out]
  by_cases h0 : x = 0
  · have hr : Hid (decide (x ≠ 0) = false) := hid (by simp [h0])
    have hs0 : Hid (x.num.sign = 0) := hid (by rw [h0]; rfl)
    rw [hr.out]
    clear h0
    go_enter Tryz.func320, Tryz.ntmps320
    go_wp2_with (first | (with_reducible refine up_ixn slRat (by omega) (by assumption) ?_) | ((with_reducible show wpList _ _ _ (⟨_, .load 41 _, _, _, _, _⟩ :: _) _ _); refine st_loadElem stRat col hsv hcl rfl (by simp) QV.agg ?_; intro u5 hu5; rw [hx'.out] at hu5; obtain ⟨s5, a5, n5, c5, d5, k5, e5, rfl⟩ := hu5.shape))
    refine (qsign X w _ x hX hu5).mono ?_
    rintro e w7 ⟨hE7, rfl⟩
    rw [hs0.out]
    go_wp2_with fail
    go_ret
    exact ⟨hE7, rfl⟩
  · have hr : Hid (decide (x ≠ 0) = true) := hid (by simp [h0])
    have hs0 : ((x.num.sign : Int) != 0) = true := bneT (by intro h; exact h0 (Rat.num_eq_zero.1 (Int.sign_eq_zero_iff_zero.1 h)))
    rw [hr.out]
    clear h0
    go_enter Tryz.func320, Tryz.ntmps320
    go_wp2_with (first | (with_reducible refine up_ixn slRat (by omega) (by assumption) ?_) | ((with_reducible show wpList _ _ _ (⟨_, .load 41 _, _, _, _, _⟩ :: _) _ _); refine st_loadElem stRat col hsv hcl rfl (by simp) QV.agg ?_; intro u5 hu5; rw [hx'.out] at hu5; obtain ⟨s5, a5, n5, c5, d5, k5, e5, rfl⟩ := hu5.shape))
    refine (qsign X w _ x hX hu5).mono ?_
    rintro e w7 ⟨hE7, rfl⟩
    generalize x.num.sign = sg at hs0
    go_wp2_with fail
    go_ret
    exact ⟨hE7, rfl⟩
set_option maxRecDepth 100000 in
theorem indexfunc_any (X : Nat -> Bool) (w : World) (a : Option Addr) (l : List (List Rat)) (n c nc col b : Nat) (hX : HX X w) (hs : Sl RC 1 (mk X w) a l) (hl : l.length = n) (hn : n <= 1000000) (hr : ∀ r ∈ l, r.length = nc) (hcol : col < nc) (hB : BM 68719476736 l) (hb : w.cell? ⟨b, 0, none⟩ = some (.int .i64 (col : Int))) :
    Calls Tryz.prog 319 #[.slice a n c, .func (.func 320) #[] #[.pointer (some ⟨b, 0, none⟩)]] w (fun e w' => Ext w w' /\ e = .returned (.int .i64 (idxI (l.findIdx? fun r => decide (r.getD col 0 ≠ 0))))) := by
  have hh : Hd a n := by have := hs.hd; rw [hl] at this; exact this
  have hl' := hid hl
  have hr' := hid hr
  have hB' := hid hB
  have hres1 : Hid (∀ i (hi : i < l.length), (∀ q (hq : q < l.length), q < i -> l[q].getD col 0 = 0) -> l[i].getD col 0 ≠ 0 -> l.findIdx? (fun r => decide (r.getD col 0 ≠ 0)) = some i) := hid fun i hi h1 h2 => by
    rw [List.findIdx?_eq_some_iff_getElem]
    exact ⟨hi, by simpa using h2, fun q hq => by simpa using h1 q (by omega) hq⟩
  have hres2 : Hid ((∀ q (hq : q < l.length), l[q].getD col 0 = 0) -> l.findIdx? (fun r => decide (r.getD col 0 ≠ 0)) = none) := hid fun h1 => by
    rw [List.findIdx?_eq_none_iff]
    intro r hr
    obtain ⟨q, hq, rfl⟩ := List.getElem_of_mem hr
    simpa using h1 q hq
  obtain ⟨F, hF⟩ : ∃ F, l.findIdx? (fun r => decide (r.getD col 0 ≠ 0)) = F := ⟨_, rfl⟩
  rw [hF] at hres1 hres2 |-
  clear hl hr hB hF
  go_enter Tryz.func319, Tryz.ntmps319
  go_wp2_with fail
  go_loopw [8] (fun k wr => ∃ (i : Nat), k = .int .i64 i /\ i <= n /\ Hid (∀ q (hq : q < l.length), q < i -> l[q].getD col 0 = 0) /\ Ext w wr) (fun k _ => n - (intOf k).toNat)
  case atStart => exact ⟨0, rfl, Nat.zero_le _, hid (fun q hq h => by omega), ExtX.refl _⟩
  case round =>
    obtain ⟨i, rfl, hi, hok, hE⟩ := hrel
    by_cases hlt : i < n
    · have hil : i < l.length := by rw [hl'.out]; exact hlt
      obtain ⟨a1, c1, hX1, hc1, hcl1, hq1⟩ := (hs.mono RC.mono (mk_ext hE)).row i hil
      have k00 := hc1.out noY wr (ExtX.refl _) rfl
      have hrl := hid (hr'.out l[i] (List.getElem_mem _))
      have hbl := hid (hB'.out l[i] (List.getElem_mem _))
      rw [hrl.out] at k00
      have hcell := hE.cell hb
      have hcall := closure_any X wr a1 l[i] nc c1 col b (hX.ext hE) hq1 hrl.out hcol hbl.out hcell
      by_cases h0 : l[i].getD col 0 = 0
      · have hd : Hid (decide (l[i].getD col 0 ≠ 0) = false) := hid (decide_eq_false (fun h => h h0))
        rw [hd.out] at hcall
        have hok2 : Hid (∀ q (hq : q < l.length), q < i + 1 -> l[q].getD col 0 = 0) := hid fun q hq hqi => by
          by_cases e : q = i
          · subst e; exact h0
          · exact hok.out q hq (by omega)
        clear h0 hc1 hq1
        go_wp2_with (with_reducible refine up_ix1 slRats (by omega) (by assumption) ?_)
        refine hcall.mono ?_
        rintro e w5 ⟨hE5, rfl⟩
        clear k00
        go_wp2_with fail
        go_roundw
        case rel => exact ⟨i + 1, by go_num, by omega, hok2, hE.trans hE5⟩
        case measure => simp [intOf]; omega
      · have hd : Hid (decide (l[i].getD col 0 ≠ 0) = true) := hid (decide_eq_true h0)
        rw [hd.out] at hcall
        have hf := hid (hres1.out i hil (fun q hq hqi => hok.out q hq hqi) h0)
        clear h0 hc1 hq1
        go_wp2_with (with_reducible refine up_ix1 slRats (by omega) (by assumption) ?_)
        refine hcall.mono ?_
        rintro e w5 ⟨hE5, rfl⟩
        clear k00
        go_wp2_with fail
        go_ret
        exact ⟨hE.trans hE5, ret_int (by rw [hf.out]; rfl)⟩
    · have hf := hid (hres2.out fun q hq => hok.out q hq (by rw [hl'.out] at hq; omega))
      go_wp2_with fail
      go_ret
      exact ⟨hE, ret_int (by rw [hf.out]; rfl)⟩
end Go.Proofs.YtnnpfhoigmegcaaGreat
namespace Go.Lin
theorem getD_row {m : Mat} {i : Nat} (h : i < m.length) : m.getD i [] = m[i] := by simp [List.getD_eq_getElem?_getD, h]
theorem clear_zero (m : Mat) (t col : Nat) : clear m t col 0 = m := by
  unfold clear rows
  refine List.ext_getElem (by simp) fun q h1 h2 => ?_
  rw [List.getElem_mapIdx, if_neg (by omega)]
theorem clear_get {m : Mat} {t col s i : Nat} (h : i < (clear m t col s).length) (h2 : i < m.length) : (clear m t col s)[i] = if t < i /\ i < t + 1 + s then elimL m[i] (m.getD t []) col else m[i] := by
  show (m.mapIdx _)[i]'(by simpa using h2) = _
  rw [List.getElem_mapIdx]
theorem clear_len (m : Mat) (t col s : Nat) : (clear m t col s).length = m.length := by simp [clear, rows]
theorem clear_set {m : Mat} {t col s : Nat} (h : t + 1 + s < m.length) : (clear m t col s).set (t + 1 + s) (elimL m[t + 1 + s] (m.getD t []) col) = clear m t col (s + 1) := by
  refine List.ext_getElem (by simp [clear_len]) fun q h1 h2 => ?_
  have hq : q < m.length := by rw [clear_len] at h2; exact h2
  rw [List.getElem_set, clear_get h2 hq]
  split
  · subst_vars; rw [if_pos (by omega)]
  · rw [clear_get (by simpa [clear_len] using hq) hq]
    by_cases a : t < q /\ q < t + 1 + s
    · rw [if_pos a, if_pos (by omega)]
    · rw [if_neg a, if_neg (by omega)]
theorem clear_full {m : Mat} {t col s s' : Nat} (h : m.length <= t + 1 + s) (h' : m.length <= t + 1 + s') : clear m t col s = clear m t col s' := by
  refine List.ext_getElem (by simp [clear_len]) fun q h1 h2 => ?_
  have hq : q < m.length := by rw [clear_len] at h2; exact h2
  rw [clear_get h1 hq, clear_get h2 hq]
  by_cases a : t < q
  · rw [if_pos (by omega), if_pos (by omega)]
  · rw [if_neg (by omega), if_neg (by omega)]
theorem above_zero (m : Mat) (t col : Nat) : above m t col 0 = m := by
  unfold above rows
  refine List.ext_getElem (by simp) fun q h1 h2 => ?_
  rw [List.getElem_mapIdx, if_neg (by omega)]
theorem above_get {m : Mat} {t col s i : Nat} (h : i < (above m t col s).length) (h2 : i < m.length) : (above m t col s)[i] = if i < t /\ i < s then elimL m[i] (m.getD t []) col else m[i] := by
  show (m.mapIdx _)[i]'(by simpa using h2) = _
  rw [List.getElem_mapIdx]
theorem above_len (m : Mat) (t col s : Nat) : (above m t col s).length = m.length := by simp [above, rows]
theorem above_set {m : Mat} {t col s : Nat} (h : s < m.length) (hst : s < t) : (above m t col s).set s (elimL m[s] (m.getD t []) col) = above m t col (s + 1) := by
  refine List.ext_getElem (by simp [above_len]) fun q h1 h2 => ?_
  have hq : q < m.length := by rw [above_len] at h2; exact h2
  rw [List.getElem_set, above_get h2 hq]
  split
  · subst_vars; rw [if_pos (by omega)]
  · rw [above_get (by simpa [above_len] using hq) hq]
    by_cases a : q < t /\ q < s
    · rw [if_pos a, if_pos (by omega)]
    · rw [if_neg a, if_neg (by omega)]
end Go.Lin
namespace Go.Rep
open Go.RowKit Go.Lim Go.Lin
theorem obs_swap {hs : List Hdr} {i k : Nat} (hi : i < hs.length) (hk : k < hs.length) : obs ((hs.set i hs[k]).set k hs[i]) = obs hs := by
  funext b
  rw [Bool.eq_iff_iff]
  constructor
  · intro h
    obtain ⟨q, hq, h2⟩ := obs_of h
    simp only [List.length_set] at hq
    rw [List.getElem_set] at h2
    split at h2
    · exact obs_get hi h2
    · rw [List.getElem_set] at h2
      split at h2
      · exact obs_get hk h2
      · exact obs_get hq h2
  · intro h
    obtain ⟨q, hq, h2⟩ := obs_of h
    by_cases a : q = i
    · subst a
      refine obs_get (i := k) (by simpa using hk) ?_
      rw [List.getElem_set_self]; exact h2
    · by_cases b' : q = k
      · subst b'
        refine obs_get (i := i) (by simpa using hi) ?_
        rw [List.getElem_set_ne (by omega), List.getElem_set_self]; exact h2
      · refine obs_get (i := q) (by simpa using hq) ?_
        rw [List.getElem_set_ne (by omega), List.getElem_set_ne (by omega)]; exact h2
section
variable {X : Nat -> Bool} {base : Nat} {e1 e2 : TypeId} {w w' : World} {ao : Option Addr} {cap : Nat} {hs : List Hdr} {m : List (List Rat)}
theorem swapL_get {m : Mat} {i k q : Nat} (hi : i < m.length) (hk : k < m.length) (hq : q < (swapL m i k).length) : (swapL m i k)[q] = if q = k then m[i] else if q = i then m[k] else m[q]'(by simpa [swapL] using hq) := by
  simp only [swapL, getD_row hi, getD_row hk]
  rw [List.getElem_set]
  by_cases a : k = q
  · rw [if_pos a, if_pos a.symm]
  · rw [if_neg a, if_neg (Ne.symm a), List.getElem_set]
    by_cases b : i = q
    · rw [if_pos b, if_pos b.symm]
    · rw [if_neg b, if_neg (Ne.symm b)]
theorem hset_get {hs : List Hdr} {i k q : Nat} (hi : i < hs.length) (hk : k < hs.length) (hq : q < ((hs.set i hs[k]).set k hs[i]).length) : ((hs.set i hs[k]).set k hs[i])[q] = if q = k then hs[i] else if q = i then hs[k] else hs[q]'(by simpa using hq) := by
  rw [List.getElem_set]
  by_cases a : k = q
  · rw [if_pos a, if_pos a.symm]
  · rw [if_neg a, if_neg (Ne.symm a), List.getElem_set]
    by_cases b : i = q
    · rw [if_pos b, if_pos b.symm]
    · rw [if_neg b, if_neg (Ne.symm b)]
theorem MO.swap (h : MO X base e1 e2 w ao cap hs m) {i k : Nat} (hi : i < hs.length) (hk : k < hs.length) (hE : ExtX (ob ao) w w') (ho : OL HdR 1 X base e1 w' ao cap ((hs.set i hs[k]).set k hs[i])) : MO X base e1 e2 w' ao cap ((hs.set i hs[k]).set k hs[i]) (swapL m i k) := by
  have hl := h.len
  refine h.perm (fun q => if q = k then i else if q = i then k else q) (fun q hq => ?_) (fun a b ha hb hab => ?_) (fun q hq => ?_) (by simp) (by simp [swapL]) (fun q hq hq' => ?_) (fun q hq hq' => ?_) hE ho
  · split
    · exact hi
    · split
      · exact hk
      · exact hq
  · split at hab <;> split at hab <;> (try split at hab) <;> (try split at hab) <;> omega
  · by_cases a : q = i
    · exact ⟨k, hk, by simp [a]⟩
    · by_cases b : q = k
      · refine ⟨i, hi, ?_⟩
        by_cases c : i = k
        · omega
        · simp [c, b]
      · exact ⟨q, hq, by simp [a, b]⟩
  · rw [hset_get hi hk hq]
    by_cases a : q = k
    · simp [a]
    · by_cases b : q = i
      · subst b; simp [a]
      · simp [a, b]
  · rw [swapL_get (by omega) (by omega) hq]
    by_cases a : q = k
    · simp [a]
    · by_cases b : q = i
      · subst b; simp [a]
      · simp [a, b]
end
section
variable {P : Program} {ops : Array Oper} {Q : Exit -> Act -> World -> Prop} {rest : List Oper} {a : Act} {w : World}
variable {d : Option Tmp} {ty : TypeId} {ps : String} {af : Array Edge}
theorem st_fromA {t e by_ : Nat} {z : Value} {x lo : Operand} {k1 : IntKind} {m : Int} {ao : Option Addr} {cap : Nat} (T : SliceT P t e 1 by_ z) (n i : Nat) (hx : a.eval x = .slice ao n cap) (hlo : a.eval lo = .int k1 m) (hm : m = (i : Int)) (hd : Hd ao n) (hi : i <= n) (hc : n <= cap)
    (K : ∀ ao', (∀ k, k < n - i -> adr ao' k = adr ao (i + k)) -> Hd ao' (n - i) -> wpList P ops Q rest (a.put d (.slice ao' (n - i) (cap - i))) w) :
    wpList P ops Q (⟨d, .slice t x (some lo) none none, ty, ps, af, none⟩ :: rest) a w := by
  refine wpList_plain rfl fun K' hK' => ?_
  subst hm
  have hr := run_slice_i (P := P) (ao := ao) T n cap k1 i hi hc w
  have := K (subAddr ao i cap 1) (fun k hk => by
    obtain ⟨b, off, rfl⟩ := hd (by omega)
    have hm : ¬ cap = i := by omega
    simp [subAddr, hm, Addr.add_lit, adr, Nat.add_assoc]) (fun hn => by
    obtain ⟨b, off, rfl⟩ := hd (by omega)
    have hm : ¬ cap = i := by omega
    exact ⟨b, off + i * 1, by simp [subAddr, hm, Addr.add_lit]⟩)
  unfold Oper.wp
  simp [execOp, hx, hlo, hr, Result.andThen]
  exact hK' _ _ this
end
end Go.Rep
namespace Go.Lin
theorem eN_succ (m : Mat) (k : Nat) : eN m (k + 1) = eStep (eN m k) k := rfl
theorem elim_bounds {n c B t i col : Nat} {m : Mat} (_hs : Shp n c m) (h : HB B m) (_ht : t < n) (_hi : i < n) (hB : 5 * B <= 68719476736) :
    Go.Rep.BR 68719476736 (m.getD i []) /\ Go.Rep.BR 68719476736 (m.getD t []) /\ Go.Lim.hq ((m.getD i []).getD col 0 / (m.getD t []).getD col 0) <= 68719476736 /\ ∀ x ∈ m.getD t [], Go.Lim.hq ((m.getD i []).getD col 0 / (m.getD t []).getD col 0 * x) <= 68719476736 := by
  have hrow : ∀ k, Go.Rep.BR B (m.getD k []) := fun k q hq => by
    obtain ⟨j, hj, rfl⟩ := List.getElem_of_mem hq
    have e : (m.getD k []).getD j 0 = (m.getD k [])[j] := by rw [List.getD_eq_getElem?_getD, List.getElem?_eq_getElem hj]; rfl
    rw [<- e]; exact h k j
  have h1 := h i col
  have h2 := h t col
  unfold ent at h1 h2
  have h3 := Go.Lim.hq_div ((m.getD i []).getD col 0) ((m.getD t []).getD col 0)
  refine ⟨fun q hq => Nat.le_trans (hrow i q hq) (by omega), fun q hq => Nat.le_trans (hrow t q hq) (by omega), by omega, fun x hx => ?_⟩
  have h4 := hrow t x hx
  have h5 := Go.Lim.hq_mul ((m.getD i []).getD col 0 / (m.getD t []).getD col 0) x
  omega
theorem HB.bm {B : Nat} {m : Mat} (h : HB B m) : Go.Rep.BM B m := fun r hr q hq => by
  obtain ⟨i, hi, rfl⟩ := List.getElem_of_mem hr
  obtain ⟨j, hj, rfl⟩ := List.getElem_of_mem hq
  have := h i j
  simpa [ent, List.getD_eq_getElem?_getD, hi, hj] using this
end Go.Lin
namespace Go.Rep
theorem Sl.fromA {α : Type} {R : Mem -> Value -> α -> Prop} {h : Mem} {ao ao' : Option Addr} {l : List α} (s : Sl R 1 h ao l) (i : Nat) (ha : ∀ k, k < l.length - i -> adr ao' k = adr ao (i + k)) (hd : Hd ao' (l.length - i)) : Sl R 1 h ao' (l.drop i) := by
  refine ⟨by rw [List.length_drop]; exact hd, fun k hk => ?_⟩
  rw [List.length_drop] at hk
  obtain ⟨u, h1, h2, h3⟩ := s.2 (i + k) (by omega)
  refine ⟨u, h1, fun j hj => ?_, by simpa using h3⟩
  have hj0 : j = 0 := by omega
  subst hj0
  have := h2 0 hj
  simp only [Nat.mul_one, Nat.add_zero] at this |-
  rw [ha k hk]; exact this
theorem map_adr {ao : Option Addr} {n i : Nat} (hd : Hd ao n) (hn : 0 < n) (k : Nat) : adr (Option.map (fun x => x.add i) ao) k = adr ao (i + k) := by
  obtain ⟨b, off, rfl⟩ := hd hn
  simp [Addr.add_lit, adr, Nat.add_assoc]
theorem NatIn.pure (k : IntKind) : ∀ h h' u x, NatIn k h u x -> NatIn k h' u x := fun _ _ _ _ h => h
theorem map_hd {ao : Option Addr} {n i m : Nat} (hd : Hd ao n) (hn : 0 < n) : Hd (Option.map (fun x => x.add i) ao) m := fun _ => by
  obtain ⟨b, off, rfl⟩ := hd hn
  exact ⟨b, off + i, by simp [Addr.add_lit]⟩
end Go.Rep
namespace Go.Proofs.YtnnpfhoigmegcaaGreat
open Go.RowKit Go.Rep Go.Lim Go.Lin
def ChOut (X : Nat -> Bool) (base : Nat) (w : World) (ao : Option Addr) (cap : Nat) (hs : List Hdr) (s : St) (e : Ending) (w' : World) : Prop :=
  ExtX (mb ao hs) w w' /\ ∃ po pc hs', e = .returned (.tuple #[.slice po s.2.1.length pc, .bool s.2.2]) /\ mb ao hs' = mb ao hs /\ MO (un X po) base 26 41 w' ao cap hs' s.1 /\ OL (NatIn .i64) 1 (mz X ao hs) w.heap.size 3 w' po pc s.2.1
set_option maxRecDepth 100000 in
set_option maxHeartbeats 1600000 in
theorem echelon_any (X : Nat -> Bool) (base : Nat) (w : World) (ao : Option Addr) (cap n c : Nat) (hs : List Hdr) (m : List (List Rat)) (hX : HX X w) (hM : MO X base 26 41 w ao cap hs m) (hsh : Shp n c m) (hc : colsL m = c) (hn : n <= 900) (hcc : c <= 900) (hT : TameE m c) :
    Calls Tryz.prog 270 #[.slice ao n cap] w (ChOut X base w ao cap hs (eN m c)) := by
  have hml := hid hsh.1
  have hmc : MC (mk X w) (.slice ao n cap) m := by have := hM.mc; rw [hml.out] at this; exact this
  have hcol := columns_any X w _ m hmc
  rw [hc] at hcol
  have hlen := hid (hM.len.trans hml.out)
  have hcap : n <= cap := by have := hM.capLen; rw [hml.out] at this; exact this
  have hhO : Hd ao n := by have := hM.outer.hd; rw [hlen.out] at this; exact this
  have hn0 : Hid (n = 0 -> c = 0) := hid fun h => by
    have : m = [] := List.eq_nil_of_length_eq_zero (by rw [hml.out]; exact h)
    rw [<- hc, this]; rfl
  have hsh' := hid hsh
  obtain ⟨B, hB7, hBj⟩ := hT
  have hB' := hid hBj
  have hBB' := hid hB7
  have hund : un X none = X := by funext k; simp [un, ob]
  have hMu : MO (un X none) base 26 41 w ao cap hs m := by rw [hund]; exact hM
  have hXz := hM.hz hX
  clear hsh hBj hB7 hc hmc
  go_enter Tryz.func270, Tryz.ntmps270
  go_wp2_with fail
  refine hcol.mono ?_
  rintro e w1 ⟨rfl, rfl⟩
  clear hcol
  go_wp2_with fail
  go_loopw [2, 3, 11] (fun p o k wr => ∃ (j : Nat) (po : Option Addr) (pc pl : Nat) (hs' : List Hdr) (M : Mat) (P : List Nat) (od : Bool), k = .int .i64 j /\ p = .slice po pl pc /\ o = .bool od /\ j <= c /\ Hid (P.length = pl) /\ Hid (eN m j = (M, P, od)) /\ Hid (j < c -> pl < n) /\ MO (un X po) base 26 41 wr ao cap hs' M /\ OL (NatIn .i64) 1 (mz X ao hs) w1.heap.size 3 wr po pc P /\ Hid (mb ao hs' = mb ao hs) /\ ExtX (mb ao hs) w1 wr) (fun _ _ k _ => c - (intOf k).toNat)
  case atStart => exact ⟨0, none, 0, 0, hs, m, [], false, rfl, rfl, rfl, Nat.zero_le _, hid rfl, hid rfl, hid (fun h => by have := hn0.out; omega), hMu, OL.nil _ _ _ _ _ _, hid rfl, ExtX.refl _⟩
  case round =>
    obtain ⟨j, po, pc, pl, hs', M, P, od, rfl, rfl, rfl, hj, hpl, hst, hpn, hM, hP, hmb, hE⟩ := hrel
    by_cases hlj : j < c
    · have hpn2 := hpn.out hlj
      have hok := eN_ok hsh'.out j
      rw [hst.out] at hok
      have hshM : Shp n c M := hok.shp
      have hMl := hid hshM.1
      have hhl := hid (hM.len.trans hMl.out)
      have hXr : HX X wr := hX.ext hE
      have hXu : HX (un X po) wr := fun k hk => by
        by_cases hx : X k = true
        · exact hXr k hx
        · exact (hP.block (by simpa [un, hx] using hk)).2
      have hBM : HB B M := by have := hB'.out j (by omega); rw [hst.out] at this; exact this
      have hb5' : 5 * B <= 68719476736 := by have := hBB'.out; omega
      have hBM2 := hid (hBM.bm)
      have hEb : Ext wr (wr.alloc (.cells #[.int .i64 (j : Int)] 3)) := (ExtX.refl wr).alloc _
      have hbx : (wr.alloc (.cells #[.int .i64 (j : Int)] 3)).cell? ⟨wr.heap.size, 0, none⟩ = some (.int .i64 (j : Int)) := cell_new 0 rfl
      have hM1 := hM.ext0 hEb
      have hP1 := hP.ext0 (NatIn.elem _) hEb
      have hX1 := hXu.ext hEb
      have hSl : Sl RC 1 (mk (un X po) (wr.alloc (.cells #[.int .i64 (j : Int)] 3))) ao M := by
        obtain ⟨_, _, heq, _, h3⟩ := hM1.mc
        simp only [Value.slice.injEq] at heq
        obtain ⟨rfl, _, rfl⟩ := heq
        exact h3
      obtain ⟨bw, hbw⟩ : ∃ bw, wr.heap.size = bw := ⟨_, rfl⟩
      obtain ⟨w2, hw2⟩ : ∃ w2, wr.alloc (.cells #[.int .i64 (j : Int)] 3) = w2 := ⟨_, rfl⟩
      rw [hw2] at hEb hbx hM1 hP1 hX1 hSl
      rw [hbw] at hbx
      have hpbw : Hid (ob po bw = false) := hid (by rw [<- hbw]; exact hP.ob_ge (Nat.le_refl _))
      have hobw : Hid (ob ao bw = false) := hid (by rw [<- hbw]; exact hM.outer.ob_ge (Nat.le_refl _))
      have hw2' := hid hw2
      have hbw' := hid hbw
      have hn1 : 0 < n := by omega
      have hmd : Hid (n - pl = (M.drop pl).length) := hid (by rw [List.length_drop, hMl.out])
      have hSd : Sl RC 1 (mk (un X po) w2) (Option.map (fun x => x.add pl) ao) (M.drop pl) := hSl.fromA pl (fun k _ => map_adr hhO hn1 k) (map_hd hhO hn1)
      have hrows : Hid (∀ r ∈ M.drop pl, r.length = c) := hid fun r hr => hshM.2 r (List.mem_of_mem_drop hr)
      have hbmd : Hid (BM 68719476736 (M.drop pl)) := hid fun r hr q hq => Nat.le_trans (hBM2.out r (List.mem_of_mem_drop hr) q hq) (by omega)
      have hix := indexfunc_any (un X po) w2 _ (M.drop pl) (n - pl) (cap - pl) c j bw hX1 hSd hmd.out.symm (by omega) hrows.out hlj hbmd.out hbx
      obtain ⟨F, hF⟩ : ∃ F, (M.drop pl).findIdx? (fun r => decide (r.getD j 0 ≠ 0)) = F := ⟨_, rfl⟩
      rw [hF] at hix
      have hnz : Hid (nzAt M P.length j = F) := hid (by rw [hpl.out]; exact hF)
      clear hF hSd hSl
      go_wp2_with fail
      refine hix.mono ?_
      rintro e w3 ⟨hE3, rfl⟩
      have hM3 := hM1.ext0 hE3
      have hP3 := hP1.ext0 (NatIn.elem _) hE3
      have hb3 := hE3.cell hbx
      have hE03 := hE.trans (ExtX.of (hEb.trans hE3))
      clear hM1 hP1 hix hbx hw2
      match F, hnz with
      | none, hnz =>
        have hst2 : Hid (eN m (j + 1) = (M, P, od)) := hid (by
          rw [eN_succ, hst.out]; unfold eStep; dsimp only
          split
          · rfl
          · rw [hnz.out])
        simp only [idxI]
        go_wp2_with fail
        go_roundw
        case rel => exact ⟨j + 1, po, pc, pl, hs', M, P, od, by go_num, rfl, rfl, by omega, hpl, hst2, hid (fun _ => hpn2), hM3, hP3, hmb, hE03⟩
        case measure => simp [intOf]; omega
      | some q, hnz =>
        obtain ⟨hq1, hq2⟩ := nzAt_some hnz.out
        rw [hpl.out, hMl.out] at hq1
        have hq0 : ¬ (q : Int) < 0 := by omega
        simp only [idxI]
        clear hq2
        have hr1 : pl + q < hs'.length := by rw [hhl.out]; exact hq1
        have hr2 : pl < hs'.length := by rw [hhl.out]; exact hpn2
        obtain ⟨a1, n1, c1, hh1⟩ : ∃ a n c, hs'[pl] = (a, n, c) := ⟨_, _, _, rfl⟩
        obtain ⟨a2, n2, c2, hh2⟩ : ∃ a n c, hs'[pl + q] = (a, n, c) := ⟨_, _, _, rfl⟩
        have hO0 := hM3.outer
        obtain ⟨z1, zf1⟩ := hM3.hdr pl hr2
        obtain ⟨z2, zf2⟩ := hM3.hdr (pl + q) hr1
        rw [hh1] at z1
        rw [hh2] at z2
        dsimp only at z1 z2
        have k1 : w3.cell? (adr ao pl) = some (.slice a1 n1 c1) := z1
        have k2 : w3.cell? (adr ao (pl + q)) = some (.slice a2 n2 c2) := z2
        have f1 : w3.frozen? (adr ao pl) = false := zf1
        have f2 : w3.frozen? (adr ao (pl + q)) = false := zf2
        obtain ⟨hO1, hE4⟩ := hO0.set1 tyRats HdR.elem HdR.one pl hr2 (.slice a2 n2 c2) (a2, n2, c2) rfl
        obtain ⟨u3, k3, f3, hu3⟩ := hO1.cell HdR.one (pl + q) (by simpa using hr1)
        have hu3' : u3 = .slice a2 n2 c2 := by
          have e : (hs'.set pl (a2, n2, c2))[pl + q]'(by simpa using hr1) = (a2, n2, c2) := by
            rw [List.getElem_set]; split
            · rfl
            · exact hh2
          rw [e] at hu3; exact hu3
        rw [hu3'] at k3
        obtain ⟨hO2, hE5⟩ := hO1.set1 tyRats HdR.elem HdR.one (pl + q) (by simpa using hr1) (.slice a1 n1 c1) (a1, n1, c1) rfl
        have hE6 := (hE4.trans hE5).drew
        have hO2 := hO2.ext0 HdR.elem (ExtX.refl (Y := noY) _).drew
        rw [<- hh1, <- hh2] at hO2
        have i1 : ∀ W, (Instr.indexAt 25 (.slice ao n cap) (.int .i64 (pl : Int))).run Tryz.prog W = .ok (.pointer (some (adr ao pl))) W := run_ix1 slRats ao n cap .i64 pl hhO (by omega) rfl
        have i2 : ∀ W, (Instr.indexAt 25 (.slice ao n cap) (.int .i64 ((pl : Int) + (q : Int)))).run Tryz.prog W = .ok (.pointer (some (adr ao (pl + q)))) W := run_ix1 slRats ao n cap .i64 (pl + q) hhO (by omega) (by omega)
        have ew : IntKind.i64.wrap ((pl : Int) + (q : Int)) = (pl : Int) + (q : Int) := IntWalk.i64_in _ (by omega)
        have hM5 := hM3.swap hr2 hr1 hE6 hO2
        have hX5 := hX1.ext hE3
        have hP5 : OL (NatIn .i64) 1 (mz X ao hs) w1.heap.size 3 _ po pc P := hP3.frame (NatIn.pure _) hE6 (fun k hk => by
          cases hb : ob ao k
          · rfl
          · have := (hM3.out_sep hb).1; rw [un_right hk] at this; simp at this) hP3.1
        have hb5 := hE6.cellY hb3 hobw.out
        clear hu3 hu3' hO0 hO1 hO2 z1 z2 zf1 zf2 hh1 hh2 hE4 hE5
        go_wp2_with fail
        go_region
        obtain ⟨w5, hw5⟩ : ∃ w5, ((w3.setCell (adr ao pl) (.slice a2 n2 c2)).setCell (adr ao (pl + q)) (.slice a1 n1 c1)).drew = w5 := ⟨_, rfl⟩
        rw [hw5] at hM5 hP5 hb5 hE6 |-
        have hE05 := hE03.trans (ExtX.weaken hE6 fun k _ hk => (ob_mb hk).1)
        have hX5 := hX5.ext hE6
        have hXz5 := hXz.ext hE05
        have hbase5 := hE05.size
        clear k1 k2 k3 f1 f2 f3 i1 i2 hw5 hb3
        have hpl5 : pl + 1 <= n := hpn2
        go_wp2_with (first | ((with_reducible show wpList _ _ _ (⟨_, .slice _ _ _ _ _, _, _, _, _⟩ :: _) _ _); refine st_fromA slRats n (pl + 1) rfl rfl (by omega) hhO hpl5 hcap ?_; intro ao3 ha3 hd3; replace ha3 := hid ha3) | (at_builtin; refine st_append1n (l := P) slInt rfl (NatIn.elem .i64) hbase5 hXz5 pl hpl.out rfl rfl hP5 (.int .i64 (j : Int)) j rfl rfl (by omega) (by omega) ?_; intro po2 pc2 w6 hP6 hE7 hor; have b6 := hE7.cellY hb5 hpbw.out))
        have hM6 : MO (un X po2) base 26 41 w6 ao cap _ _ := hM5.ext (X' := un X po2) hE7 (fun k _ hk => un_right hk) (fun k hk hz => by
          by_cases hx : X k = true
          · exact un_left hx
          · have h2 : ob po2 k = true := by simpa [un, hx] using hz
            rcases hor with rfl | ⟨g, rfl, hg⟩
            · exact un_right h2
            · have : g = k := by simpa [ob] using h2
              omega)
        have hE06 : ExtX (mb ao hs) w1 w6 := hE05.then_ hE7 fun k hk _ => hP5.ob_lt hk
        have hmb2 : Hid (mb ao ((hs'.set pl hs'[pl + q]).set (pl + q) hs'[pl]) = mb ao hs) := hid (by rw [<- hmb.out]; exact (obs_congr (X := X) fun k => by rw [obs_swap hr2 hr1]).1)
        have hh2l : Hid (((hs'.set pl hs'[pl + q]).set (pl + q) hs'[pl]).length = n) := hid (by simp [hhl.out])
        have hsh2 : Shp n c (swapL M pl (pl + q)) := hshM.swap hpn2 hq1
        have hBM2' : HB B (swapL M pl (pl + q)) := hBM.swap hshM hpn2 hq1
        have hst2 : Hid (eN m (j + 1) = (clear (swapL M pl (pl + q)) pl j n, P ++ [j], od != decide (q ≠ 0))) := hid (by
          rw [eN_succ, hst.out]; unfold eStep; dsimp only
          rw [if_neg (by rw [hpl.out, hMl.out]; omega), hnz.out]
          dsimp only
          rw [hpl.out, hMl.out])
        have hbnd : Hid (∀ i, i < n -> BR 68719476736 ((swapL M pl (pl + q)).getD i []) /\ BR 68719476736 ((swapL M pl (pl + q)).getD pl []) /\ hq (((swapL M pl (pl + q)).getD i []).getD j 0 / ((swapL M pl (pl + q)).getD pl []).getD j 0) <= 68719476736 /\ ∀ x ∈ (swapL M pl (pl + q)).getD pl [], hq (((swapL M pl (pl + q)).getD i []).getD j 0 / ((swapL M pl (pl + q)).getD pl []).getD j 0 * x) <= 68719476736) := hid fun i hi => elim_bounds hsh2 hBM2' hpn2 hi hb5'
        have hmbw : Hid (mb ao hs bw = false) := hid (by
          rw [<- hmb.out]
          cases hb : mb ao hs' bw
          · rfl
          · have := (hM.mb_block hb).2; omega)
        obtain ⟨hs2, hhs2⟩ : ∃ hs2, (hs'.set pl hs'[pl + q]).set (pl + q) hs'[pl] = hs2 := ⟨_, rfl⟩
        obtain ⟨M2, hM2⟩ : ∃ M2, swapL M pl (pl + q) = M2 := ⟨_, rfl⟩
        rw [hhs2] at hM6 hmb2 hh2l
        rw [hM2] at hM6 hsh2 hBM2' hst2 hbnd
        clear hhs2 hM2
        have hM2l := hid hsh2.1
        have hX6 : HX X w6 := hX.ext hE06
        have hM6' : MO (un X po2) base 26 41 w6 ao cap hs2 (clear M2 pl j 0) := by rw [clear_zero]; exact hM6
        go_loopw [54] (fun k wx => ∃ (s : Nat), k = .int .i64 s /\ s <= n - (pl + 1) /\ MO (un X po2) base 26 41 wx ao cap hs2 (clear M2 pl j s) /\ OL (NatIn .i64) 1 (mz X ao hs) w1.heap.size 3 wx po2 pc2 (P ++ [j]) /\ ExtX (mb ao hs) w1 wx /\ wx.cell? ⟨bw, 0, none⟩ = some (.int .i64 (j : Int))) (fun k _ => n - (pl + 1) - (intOf k).toNat)
        case atStart => exact ⟨0, rfl, Nat.zero_le _, hM6', hP6, hE06, b6⟩
        case round =>
          obtain ⟨s, rfl, hs9, hM8, hP8, hE8, b8⟩ := hrel
          by_cases hls : s < n - (pl + 1)
          · obtain ⟨t, ht⟩ : ∃ t, pl + 1 + s = t := ⟨_, rfl⟩
            have htn : t < n := by omega
            have hth : t < hs2.length := by rw [hh2l.out]; exact htn
            have hph : pl < hs2.length := by rw [hh2l.out]; exact hpn2
            have htm : t < M2.length := by rw [hM2l.out]; exact htn
            have hpm : pl < M2.length := by rw [hM2l.out]; exact hpn2
            have htc : t < (clear M2 pl j s).length := by rw [clear_len]; exact htm
            have hpc : pl < (clear M2 pl j s).length := by rw [clear_len]; exact hpm
            obtain ⟨a1, n1, c1, hh1⟩ : ∃ a n c, hs2[t] = (a, n, c) := ⟨_, _, _, rfl⟩
            obtain ⟨a2, n2, c2, hh2⟩ : ∃ a n c, hs2[pl] = (a, n, c) := ⟨_, _, _, rfl⟩
            have hg1 : (clear M2 pl j s)[t] = M2[t] := by rw [clear_get htc htm, if_neg (by omega)]
            have hg2 : (clear M2 pl j s)[pl] = M2[pl] := by rw [clear_get hpc hpm, if_neg (by omega)]
            have hn1' : n1 = c := by
              have := hM8.rlen t hth htc
              rw [hh1, hg1, hsh2.2 _ (List.getElem_mem _)] at this; exact this
            have hn2' : n2 = c := by
              have := hM8.rlen pl hph hpc
              rw [hh2, hg2, hsh2.2 _ (List.getElem_mem _)] at this; exact this
            subst hn1'
            subst hn2'
            have hR1 := hM8.row t hth htc
            have hR2 := hM8.row pl hph hpc
            rw [hg1] at hR1
            rw [hg2] at hR2
            simp only [hh1] at hR1
            simp only [hh2] at hR2
            have hz1 := fun k (hk : ob a1 k = true) => hM8.mz_sub hth k (by rw [hh1]; exact hk)
            have hz2 := fun k (hk : ob a2 k = true) => hM8.mz_sub hph k (by rw [hh2]; exact hk)
            have hds : ∀ k, ob a1 k = true -> ob a2 k = false := fun k hk => by
              have := hM8.dis t pl hth hph (by omega) k (by rw [hh1]; exact hk)
              rw [hh2] at this; exact this
            have hsp := fun k (hk : ob a1 k = true) => hM8.sep t hth k (by rw [hh1]; exact hk)
            have hBn := hbnd.out t htn
            rw [getD_row htm] at hBn
            have hcs : Hid ((clear M2 pl j s).set t (elimL M2[t] (M2.getD pl []) j) = clear M2 pl j (s + 1)) := hid (by subst ht; exact clear_set htm)
            have hpe : M2.getD pl [] = M2[pl] := getD_row hpm
            rw [<- hpe] at hR2
            have hrl1 := hid (hsh2.2 M2[t] (List.getElem_mem _))
            have hrl2 := hid (show (M2.getD pl []).length = n2 by rw [hpe]; exact hsh2.2 _ (List.getElem_mem _))
            obtain ⟨row, hrow⟩ : ∃ row, M2[t] = row := ⟨_, rfl⟩
            obtain ⟨piv, hpiv⟩ : ∃ piv, M2.getD pl [] = piv := ⟨_, rfl⟩
            rw [hrow, hpiv] at hcs
            rw [hrow] at hR1 hrl1
            rw [hpiv] at hR2 hrl2
            rw [hrow, hpiv] at hBn
            have hX8 : HX (un X po2) wr := fun k hk => by
              by_cases hx : X k = true
              · exact hX.ext hE8 k hx
              · exact (hP8.block (by simpa [un, hx] using hk)).2
            have hZ8 := hM8.hz hX8
            have hEd : Ext wr wr.drew := (ExtX.refl wr).drew
            have hel := eliminate_any (mz (un X po2) ao hs2) base wr.drew a1 a2 c1 c2 n2 j row piv hZ8 (hR1.ext0 QC.elem hEd) (hR2.ext0 QC.elem hEd) hz1 hz2 hds hrl1.out hrl2.out (by omega) hlj hBn.1 hBn.2.1 hBn.2.2.1 hBn.2.2.2
            have y1 : wr.cell? (adr ao3 s) = some (.slice a1 n2 c1) := by
              have := (hM8.hdr t hth).1
              rw [hh1, <- ht] at this
              rw [ha3.out s hls]; exact this
            have y2 : wr.drew.cell? (adr ao pl) = some (.slice a2 n2 c2) := by
              have := (hM8.hdr pl hph).1
              rw [hh2] at this
              exact this
            have y3 : wr.drew.cell? ⟨bw, 0, none⟩ = some (.int .i64 (j : Int)) := b8
            have haob : Hid (ob a1 (adr ao pl).block = false) := hid (by
              cases hb : ob a1 (adr ao pl).block
              · rfl
              · have h1 := (hsp _ hb).2
                obtain ⟨b0, o0, rfl⟩ := hhO (by omega)
                simp [ob, adr] at h1)
            have habw : Hid (ob a1 bw = false) := hid (by
              cases hb : ob a1 bw
              · rfl
              · have h5 : mb ao hs2 bw = true := mb_iff.2 (.inr (obs_get hth (show ob hs2[t].1 bw = true by rw [hh1]; exact hb)))
                rw [hmb2.out, hmbw.out] at h5; simp at h5)
            have i1 : ∀ W, (Instr.indexAt 25 (.slice ao n cap) (.int .i64 (pl : Int))).run Tryz.prog W = .ok (.pointer (some (adr ao pl))) W := run_ix1 slRats ao n cap .i64 pl hhO (by omega) rfl
            have hh1' := hid hh1
            replace ht := hid ht
            clear hg1 hg2 hpe hrow hpiv hh1 hh2 hR1 hR2 hBn
            go_wp2_with (with_reducible refine up_ix1 slRats (by omega) (by assumption) ?_)
            go_region_held3 (fun w' => w'.cell? (adr ao pl) = some (.slice a2 n2 c2) /\ w'.cell? ⟨bw, 0, none⟩ = some (.int .i64 (j : Int)))
              (first | exact ⟨t1.cellY y2 haob.out, t1.cellY y3 habw.out⟩ | go_keep)
              ((go_at_call 321; (with_reducible refine hel.mono ?_); rintro ee w7 ⟨rfl, t1, hO7⟩))
            have b9 := t1.cellY y3 habw.out
            have hEr : ExtX (ob hs2[t].1) wr.drew w7 := by rw [hh1'.out]; exact t1
            have hM9 := (hM8.ext0 hEd).upd hth (l := elimL row piv j) hEr (fun hi' => by
              rw [clear_get htc htm, if_neg (by have := ht.out; omega), elimL_len _ _ _ (by rw [hrl1.out, hrl2.out]), hrl2.out]
              exact (hsh2.2 _ (List.getElem_mem _)).symm) (by rw [hh1'.out]; exact hO7)
            rw [hcs.out] at hM9
            have hP9 := (hP8.ext0 (NatIn.elem _) hEd).frame (NatIn.pure _) t1 (fun k hk => by
              cases hb : ob a1 k
              · rfl
              · have := (hsp k hb).1; rw [un_right hk] at this; simp at this) hP8.1
            have hE9 := (hE8.trans (ExtX.of hEd)).trans (by rw [<- hmb2.out]; exact ExtX.row hth hEr)
            clear y1 y2 y3 i1
            go_wp2_with fail
            go_roundw
            case rel => exact ⟨s + 1, by go_num, by omega, hM9, hP9, hE9, b9⟩
            case measure => simp [intOf]; omega
          · have hfin : Hid (clear M2 pl j s = clear M2 pl j n) := hid (clear_full (by rw [hM2l.out]; omega) (by rw [hM2l.out]; omega))
            rw [hfin.out] at hM8
            have hodd : Hid ((!(od == ((q : Int) != 0))) = (od != decide (q ≠ 0))) := hid (by cases od <;> by_cases h : q = 0 <;> simp [h])
            have hpl2 : Hid ((P ++ [j]).length = pl + 1) := hid (by simp [hpl.out])
            by_cases hfull : pl + 1 = n
            · have hne : (((pl + 1 : Nat) : Int) == (n : Int)) = true := beqT (by omega)
              have hne2 : (((pl : Int) + 1) == (n : Int)) = true := beqT (by omega)
              have hstop : Hid (eN m c = (clear M2 pl j n, P ++ [j], od != decide (q ≠ 0))) := hid (by
                rw [eN_stop m (j + 1) (by rw [hst2.out]; dsimp only; rw [hpl2.out, clear_len, hM2l.out]; exact hfull) c (by omega)]; exact hst2.out)
              clear hfull
              go_wp2_with fail
              go_ret2
              rw [hstop.out]
              exact ⟨hE8, po2, pc2, hs2, by rw [hpl2.out, <- hodd.out]; rfl, hmb2.out, hM8, hP8⟩
            · have hne : (((pl + 1 : Nat) : Int) == (n : Int)) = false := beqF (by omega)
              have hne2 : (((pl : Int) + 1) == (n : Int)) = false := beqF (by omega)
              have hpn3 : Hid (j + 1 < c -> pl + 1 < n) := hid fun _ => by omega
              clear hfull
              go_wp2_with fail
              go_roundw
              case rel => exact ⟨j + 1, po2, pc2, pl + 1, hs2, _, _, _, by go_num, rfl, by rw [hodd.out], by omega, hpl2, hst2, hpn3, hM8, hP8, hmb2, hE8⟩
              case measure => simp [intOf]; omega
    · have hjc : j = c := by omega
      subst hjc
      go_wp2_with fail
      go_ret2
      rw [hst.out]
      exact ⟨hE, po, pc, hs', by rw [hpl.out]; rfl, hmb.out, hM, hP⟩
end Go.Proofs.YtnnpfhoigmegcaaGreat
namespace Go.Lin
theorem elim_bounds2 {n c B t i col : Nat} {m : Mat} (hs : Shp n c m) (h : HB B m) (ht : t < n) (_hi : i < n) (hit : i ≠ t) (hB : 7 * B <= 68719476736) :
    Go.Rep.BR 68719476736 ((divL m t col).getD i []) /\ Go.Rep.BR 68719476736 ((divL m t col).getD t []) /\ Go.Lim.hq (((divL m t col).getD i []).getD col 0 / ((divL m t col).getD t []).getD col 0) <= 68719476736 /\ ∀ x ∈ (divL m t col).getD t [], Go.Lim.hq (((divL m t col).getD i []).getD col 0 / ((divL m t col).getD t []).getD col 0 * x) <= 68719476736 := by
  have h2 := h.divL hs ht col
  have hrow : ∀ k, Go.Rep.BR (2 * B) ((divL m t col).getD k []) := fun k q hq => by
    obtain ⟨j, hj, rfl⟩ := List.getElem_of_mem hq
    have e : ((divL m t col).getD k []).getD j 0 = ((divL m t col).getD k [])[j] := by rw [List.getD_eq_getElem?_getD, List.getElem?_eq_getElem hj]; rfl
    rw [<- e]; exact h2 k j
  have h1 : Go.Lim.hq (((divL m t col).getD i []).getD col 0) <= B := by
    have := ent_divL hs ht col i col
    rw [if_neg hit] at this
    unfold ent at this
    rw [this]; exact h i col
  have h3 : Go.Lim.hq (((divL m t col).getD t []).getD col 0) <= 2 * B := h2 t col
  have h4 := Go.Lim.hq_div (((divL m t col).getD i []).getD col 0) (((divL m t col).getD t []).getD col 0)
  refine ⟨fun q hq => Nat.le_trans (hrow i q hq) (by omega), fun q hq => Nat.le_trans (hrow t q hq) (by omega), by omega, fun x hx => ?_⟩
  have h5 := hrow t x hx
  have h6 := Go.Lim.hq_mul (((divL m t col).getD i []).getD col 0 / ((divL m t col).getD t []).getD col 0) x
  omega
end Go.Lin
namespace Go.Rep
theorem run_slice_to {P : Program} {t e sz by_ : Nat} {z : Value} {ao : Option Addr} (T : SliceT P t e sz by_ z) (len cap : Nat) (k1 : IntKind) (i : Nat) (h1 : i <= cap) (w : World) :
    (Instr.sliceAt t (.slice ao len cap) none (some (.int k1 (i : Int))) none).run P w = .ok (.slice ao i cap) w := by
  obtain ⟨ti, hi, hz, hsz, hby⟩ := info_parts T.info
  have h1' : (i : Int) <= cap := by omega
  cases ao <;> simp [Instr.sliceAt, Instr.slice, run_underlying T.und, Instr.sliceBounds, run_sliceBound, h1', sizeOf, typeInfo, hi, Addr.add_zero']
end Go.Rep
namespace Go.Proofs.YtnnpfhoigmegcaaGreat
open Go.RowKit Go.Rep Go.Lim Go.Lin
def RdOut (X : Nat -> Bool) (base : Nat) (w : World) (ao : Option Addr) (cap : Nat) (hs : List Hdr) (s : Mat × List Nat) (e : Ending) (w' : World) : Prop :=
  ExtX (mb ao hs) w w' /\ ∃ po pc hs', e = .returned (.slice po s.2.length pc) /\ mb ao hs' = mb ao hs /\ MO (un X po) base 26 41 w' ao cap hs' s.1 /\ OL (NatIn .i64) 1 (mz X ao hs) w.heap.size 3 w' po pc s.2
set_option maxRecDepth 100000 in
set_option maxHeartbeats 1600000 in
theorem mreduce_any (X : Nat -> Bool) (base : Nat) (w : World) (ao : Option Addr) (cap n c : Nat) (hs : List Hdr) (m : List (List Rat)) (hX : HX X w) (hM : MO X base 26 41 w ao cap hs m) (hsh : Shp n c m) (hc : colsL m = c) (hn : n <= 900) (hcc : c <= 900) (hT : Tame m c) :
    Calls Tryz.prog 301 #[.slice ao n cap] w (RdOut X base w ao cap hs (redP m c)) := by
  have hech := echelon_any X base w ao cap n c hs m hX hM hsh hc hn hcc hT.e
  obtain ⟨B, hB7, _, hBt⟩ := hT
  have hok := eN_ok hsh c
  have hcap : n <= cap := by have := hM.capLen; rw [hsh.1] at this; exact this
  have hhO : Hd ao n := by have := hM.outer.hd; rw [hM.len, hsh.1] at this; exact this
  have hred : redP m c = (dN (eN m c).1 (eN m c).2.1 (eN m c).2.1.length, (eN m c).2.1) := rfl
  obtain ⟨⟨E, p, od⟩, hS⟩ : ∃ S, eN m c = S := ⟨_, rfl⟩
  rw [hS] at hech hok hBt hred
  rw [hred]
  dsimp only at hBt |-
  obtain ⟨pl, hpl⟩ : ∃ pl, p.length = pl := ⟨_, rfl⟩
  have hEs : Shp n c E := hok.shp
  have hEe : Ech n c (ent E) p := hok.ech
  have hpn : pl <= n := by have := hEe.le; omega
  have hDok := hid (dN_ok hEs hEe)
  have hDB : Hid (∀ t, t <= p.length -> HB B (dN E p t)) := hid hBt
  have hDb := hid hB7
  have hplt : Hid (∀ i (hi : i < p.length), p[i] < c) := hid hEe.lt
  have hpl' := hid hpl
  have hn0 : Hid (HX X w) := hid hX
  clear hsh hBt hB7 hred hS hok hEe hc
  go_enter Tryz.func301, Tryz.ntmps301
  go_wp2_with fail
  refine hech.mono ?_
  rintro e w1 ⟨hE1, po, pc, hs', rfl, hmb, hM1, hP1⟩
  dsimp only at hM1 hP1 |-
  rw [hpl]
  have hmb' := hid hmb
  have hlen := hid (hM1.len.trans hEs.1)
  have hdP : Hd po pl := by have := hP1.hd; rw [hpl] at this; exact this
  clear hech hmb hpl hM
  go_wp2_with fail
  go_loopw [19] (fun k wr => ∃ (i : Nat), k = .int .i64 i /\ i <= pl /\ MO (un X po) base 26 41 wr ao cap hs' (dN E p i) /\ OL (NatIn .i64) 1 (mz X ao hs) w.heap.size 3 wr po pc p /\ ExtX (mb ao hs) w wr) (fun k _ => pl - (intOf k).toNat)
  case atStart => exact ⟨0, rfl, Nat.zero_le _, hM1, hP1, hE1⟩
  case round =>
    obtain ⟨i, rfl, hi, hM, hP, hE⟩ := hrel
    by_cases hlt : i < pl
    · have hip : i < p.length := by rw [hpl'.out]; exact hlt
      have hin : i < n := by omega
      have hcl := hplt.out i hip
      have hPs := (hP.sl (NatIn.elem _)).nat i hip
      have hD := hDok.out i (by rw [hpl'.out]; omega)
      have hDBi := hDB.out i (by rw [hpl'.out]; omega)
      have hDbi := hDb.out
      have hgd : Hid (p.getD i 0 = p[i]) := hid (by simp [List.getD_eq_getElem?_getD, hip])
      have hdn : Hid (dN E p (i + 1) = dStep (dN E p i) i p[i]) := hid (by rw [<- hgd.out]; rfl)
      obtain ⟨D, hDe⟩ : ∃ D, dN E p i = D := ⟨_, rfl⟩
      obtain ⟨col, hcole⟩ : ∃ col, p[i] = col := ⟨_, rfl⟩
      rw [hDe] at hM hD hDBi hdn
      rw [hcole] at hPs hcl hdn
      have hDs : Shp n c D := hD.shp
      have hDl := hid hDs.1
      have hih : i < hs'.length := by rw [hlen.out]; exact hin
      have hiD : i < D.length := by rw [hDl.out]; exact hin
      obtain ⟨a, na, cr, hhd⟩ : ∃ a na cr, hs'[i] = (a, na, cr) := ⟨_, _, _, rfl⟩
      obtain ⟨row, hrow⟩ : ∃ row, D[i] = row := ⟨_, rfl⟩
      have hrl : Hid (row.length = c) := hid (by rw [<- hrow]; exact hDs.2 _ (List.getElem_mem _))
      have hna : na = c := by
        have := hM.rlen i hih hiD
        rw [hhd, hrow, hrl.out] at this; exact this
      subst hna
      have hR := hM.row i hih hiD
      rw [hrow] at hR
      simp only [hhd] at hR
      have hz1 := fun k (hk : ob a k = true) => hM.mz_sub hih k (by rw [hhd]; exact hk)
      have hsp := fun k (hk : ob a k = true) => hM.sep i hih k (by rw [hhd]; exact hk)
      have hda : Hd a na := by have := hR.hd; rw [hrl.out] at this; exact this
      have hun : Hid (un (cut (mz (un X po) ao hs') a) a = mz (un X po) ao hs') := hid (un_cut hz1)
      have haob : Hid (ob a (adr ao i).block = false) := hid (by
        cases hb : ob a (adr ao i).block
        · rfl
        · have h1 := (hsp _ hb).2
          obtain ⟨b0, o0, rfl⟩ := hhO (by omega)
          simp [ob, adr] at h1)
      have y1 : wr.cell? (adr ao i) = some (.slice a na cr) := by
        have := (hM.hdr i hih).1
        rw [hhd] at this; exact this
      have hcr : col < row.length := by rw [hrl.out]; exact hcl
      have hby : Hid (row[col] = ent D i col) := hid (by
        unfold ent; rw [getD_row hiD]; simp [hrow, List.getD_eq_getElem?_getD, hcr])
      obtain ⟨by_, hbye⟩ : ∃ b, ent D i col = b := ⟨_, rfl⟩
      have hbq : Hid (hq by_ <= 68719476736) := hid (by rw [<- hbye]; exact Nat.le_trans (hDBi i col) (by omega))
      have hBrow : Hid (BR 68719476736 row) := hid fun q hq => by
        obtain ⟨x, hx, rfl⟩ := List.getElem_of_mem hq
        have := hDBi.bm D[i] (List.getElem_mem _) row[x] (by rw [hrow]; exact List.getElem_mem _)
        omega
      have hdiv : Hid (D.set i (row.map (· / by_)) = divL D i col) := hid (by
        unfold divL; rw [getD_row hiD, hrow, hbye])
      rw [hbye] at hby
      have bx := Bx.new wr #[.bool false, .slice none 0 0, .slice none 0 0] 41
      have hhd' := hid hhd
      have hrow' := hid hrow
      clear hhd hrow hDe hcole hbye
      go_wp2_with (first | (with_reducible refine up_ix1 slInt (by omega) (by assumption) ?_) | (with_reducible refine up_ix1 slRats (by omega) (by assumption) ?_) | (with_reducible refine up_ixn slRat (by omega) (by assumption) ?_) | ((with_reducible show wpList _ _ _ (⟨_, .load 41 _, _, _, _, _⟩ :: _) _ _); refine st_loadOL stRat col hR hcr rfl (by simp) QC.agg ?_; intro u5 hu5; rw [hby.out, hun.out] at hu5; obtain ⟨s5, a5, n5, c5, d5, k5, e5, rfl⟩ := hu5.shape) | ((with_reducible show wpList _ _ _ (⟨_, .store _ _ _, _, _, _, _⟩ :: _) _ _); refine st_storeBox stRat rfl rfl bx rfl rfl (one3 _ _ _ _ _ _ _) ?_; intro w5 r1 r2; have y2 := (ExtX.box ((ExtX.refl wr).alloc _) r2 (Nat.le_refl _) : Ext wr w5).cell y1))
      have hE5 : Ext wr w5 := ExtX.box ((ExtX.refl wr).alloc _) r2 (Nat.le_refl _)
      have hM5 := hM.ext0 hE5
      have hP5 := hP.ext0 (NatIn.elem _) hE5
      have hq5 : QV (mk (mz (un X po) ao hs') w5) (.agg #[.bool s5, .slice a5 n5 c5, .slice d5 k5 e5]) by_ := (mkx QC.mono hu5 hE5).qv hbq.out
      have hE15 := hE.trans (ExtX.of (Y := mb ao hs) hE5)
      obtain ⟨bb, hbb⟩ : ∃ bb, wr.heap.size = bb := ⟨_, rfl⟩
      rw [hbb] at r1 |-
      have hmbb : Hid (mb ao hs bb = false) := hid (by
        rw [<- hmb'.out]
        cases hb : mb ao hs' bb
        · rfl
        · have := (hM.mb_block hb).2; omega)
      obtain ⟨R, hRe⟩ : ∃ R, row.map (· / by_) = R := ⟨_, rfl⟩
      have hRl : Hid (R.length = na) := hid (by rw [<- hRe, List.length_map]; exact hrl.out)
      have hRr : Hid (R.length = row.length) := hid (by rw [hRl.out, hrl.out])
      have hRj : Hid (∀ j (h1 : j < row.length) (h2 : j < R.length), R[j] = row[j] / by_) := hid fun j h1 h2 => by subst hRe; simp
      rw [hRe] at hdiv
      have hM5' : MO (un X po) base 26 41 w5 ao cap hs' (D.set i (mix R row 0)) := by
        rw [mix_zero, <- hrow'.out, List.set_getElem_self]; exact hM5
      clear hR hRe bx y1 y2 hM5 hu5 hM hP
      go_loopw [36] (fun k wx => ∃ (j : Nat), k = .int .i64 j /\ j <= na /\ MO (un X po) base 26 41 wx ao cap hs' (D.set i (mix R row j)) /\ OL (NatIn .i64) 1 (mz X ao hs) w.heap.size 3 wx po pc p /\ Bx wx bb #[.bool s5, .slice a5 n5 c5, .slice d5 k5 e5] 41 /\ QV (mk (mz (un X po) ao hs') wx) (.agg #[.bool s5, .slice a5 n5 c5, .slice d5 k5 e5]) by_ /\ ExtX (mb ao hs) w wx) (fun k _ => na - (intOf k).toNat)
      case atStart => exact ⟨0, rfl, Nat.zero_le _, hM5', hP5, r1, hq5, hE15⟩
      case round =>
        obtain ⟨j, rfl, hj, hM, hP, hB7, hq7, hE⟩ := hrel
        by_cases hlj : j < na
        · have hjr : j < row.length := by rw [hrl.out]; exact hlj
          have hjR : j < R.length := by rw [hRl.out]; exact hlj
          have hml : Hid ((mix R row j).length = na) := hid (by rw [mix_len hRr.out, hRl.out])
          have hjm : j < (mix R row j).length := by rw [hml.out]; exact hlj
          have hmg : Hid ((mix R row j)[j] = row[j]) := hid (by rw [mix_getElem hRr.out, if_neg (by omega)])
          have hjs : Hid ((mix R row j).set j R[j] = mix R row (j + 1)) := hid (mix_set hRr.out hjR)
          have hRjj := hid (hRj.out j hjr hjR)
          have hbr := hid (hBrow.out row[j] (List.getElem_mem _))
          have hset9 : Hid (i < (D.set i (mix R row j)).length) := hid (by rw [List.length_set]; exact hiD)
          have hR := hM.row i hih hset9.out
          rw [List.getElem_set_self] at hR
          simp only [hhd'.out] at hR
          obtain ⟨x, hx⟩ : ∃ x, row[j] = x := ⟨_, rfl⟩
          obtain ⟨v, hv⟩ : ∃ v, R[j] = v := ⟨_, rfl⟩
          rw [hx] at hmg hbr hRjj
          rw [hv] at hjs hRjj
          have hXr : HX X wr := hn0.out.ext hE
          have hXu : HX (un X po) wr := fun k hk => by
            by_cases hx : X k = true
            · exact hXr k hx
            · exact (hP.block (by simpa [un, hx] using hk)).2
          have hXz := hM.hz hXu
          obtain ⟨g, o, hg⟩ : ∃ g o, adr a (j * 3) = ⟨g, o, none⟩ := ⟨_, _, rfl⟩
          have i1 : ∀ W, (Instr.indexAt 25 (.slice ao n cap) (.int .i64 (i : Int))).run Tryz.prog W = .ok (.pointer (some (adr ao i))) W := run_ix1 slRats ao n cap .i64 i hhO (by omega) rfl
          have bx := Bx.new wr #[.bool false, .slice none 0 0, .slice none 0 0] 41
          have y1 : wr.cell? (adr ao i) = some (.slice a na cr) := by
            have := (hM.hdr i hih).1
            rw [hhd'.out] at this; exact this
          have hsp2 := hid hsp
          replace hg := hid hg
          clear hx hv hsp
          go_wp2_with (first | (with_reducible refine up_ixn slRat (by omega) (by assumption) ?_) | ((with_reducible show wpList _ _ _ (⟨_, .load 41 _, _, _, _, _⟩ :: _) _ _); refine st_loadOL stRat j hR hjm rfl (by simp) QC.agg ?_; intro u6 hu6; rw [hmg.out, hun.out] at hu6; obtain ⟨s6, a6, n6, c6, d6, k6, e6, rfl⟩ := hu6.shape) | ((with_reducible show wpList _ _ _ (⟨_, .store _ _ _, _, _, _, _⟩ :: _) _ _); refine st_storeBox stRat rfl rfl bx rfl rfl (one3 _ _ _ _ _ _ _) ?_; intro w6 r3 r4))
          have i2 : ∀ W, (Instr.indexAt 26 (.slice a na cr) (.int .i64 (j : Int))).run Tryz.prog W = .ok (.pointer (some ⟨g, o, none⟩)) W := by rw [<- hg.out]; exact run_indexAt_adr slRat a na cr .i64 j hda (by omega)
          have hE6 : Ext wr w6 := ExtX.box ((ExtX.refl wr).alloc _) r4 (Nat.le_refl _)
          have hEd : Ext w6 w6.drew := (ExtX.refl w6).drew
          have hE6d := hE6.trans hEd
          have hM6 := hM.ext0 hE6d
          have hP6 := hP.ext0 (NatIn.elem _) hE6d
          have hR6 := hR.ext0 QC.elem hE6d
          have hB6 := hB7.ext0 hE6d
          have hx6 : QV (mk (mz (un X po) ao hs') w6.drew) (.agg #[.bool s6, .slice a6 n6 c6, .slice d6 k6 e6]) x := (mkx QC.mono hu6 hE6d).qv hbr.out
          have hb6 : QV (mk (mz (un X po) ao hs') w6.drew) (.agg #[.bool s5, .slice a5 n5 c5, .slice d5 k5 e5]) by_ := mkx QV.mono hq7 hE6d
          have hXd := hXz.ext hE6d
          have r3d := r3.ext0 hEd
          obtain ⟨bw, hbw⟩ : ∃ bw, wr.heap.size = bw := ⟨_, rfl⟩
          rw [hbw] at r3d
          have hab : Hid (ob a bw = false) := hid (by rw [<- hbw]; exact hR.ob_ge (Nat.le_refl _))
          have habb : Hid (ob a bb = false) := hid (by
            cases hb : ob a bb
            · rfl
            · have h5 : mb ao hs' bb = true := mb_iff.2 (.inr (obs_get hih (show ob hs'[i].1 bb = true by rw [hhd'.out]; exact hb)))
              rw [hmb'.out, hmbb.out] at h5; simp at h5)
          have hS : Hid (∀ Y W', ExtX Y w6.drew W' -> Y (adr ao i).block = false -> Y bw = false -> Y bb = false -> W'.cell? (adr ao i) = some (.slice a na cr) /\ W'.cell? ⟨bw, 0, none⟩ = some (.bool s6) /\ W'.cell? ⟨bw, 1, none⟩ = some (.slice a6 n6 c6) /\ W'.cell? ⟨bw, 2, none⟩ = some (.slice d6 k6 e6) /\ W'.cell? ⟨bb, 0, none⟩ = some (.bool s5) /\ W'.cell? ⟨bb, 1, none⟩ = some (.slice a5 n5 c5) /\ W'.cell? ⟨bb, 2, none⟩ = some (.slice d5 k5 e5)) := hid fun Y W' h hy1 hy2 hy3 => by
            have z2 := r3d.ext h hy2
            have z3 := hB6.ext h hy3
            exact ⟨h.cellY (hE6d.cell y1) hy1, z2.cell 0 rfl, z2.cell 1 rfl, z2.cell 2 rfl, z3.cell 0 rfl, z3.cell 1 rfl, z3.cell 2 rfl⟩
          obtain ⟨k00, k10, k11, k12, k20, k21, k22⟩ := hS.out noY w6.drew (ExtX.refl _) rfl rfl rfl
          have qd := qdiv (mz (un X po) ao hs') w6.drew _ _ _ _ hXd hx6 hb6
          rw [<- hRjj.out] at qd
          have qd2 : Calls Tryz.prog 236 #[.agg #[.bool s6, .slice a6 n6 c6, .slice d6 k6 e6], .agg #[.bool s5, .slice a5 n5 c5, .slice d5 k5 e5]] w6.drew (fun e w' => Ext w6.drew w' /\ ∃ u ec, e = .returned (.tuple #[u, .int .i64 ec]) /\ QC (mk (mz (un X po) ao hs') w') u v) := qd.mono fun e w' ⟨q1, u, q2, q3⟩ => ⟨q1, u, _, q2, q3⟩
          clear qd r3 bx y1
          rw [hbw]
          go_wp2_with fail
          go_region_held3 (fun w' => w'.cell? (adr ao i) = some (.slice a na cr) /\ w'.cell? ⟨bw, 0, none⟩ = some (.bool s6) /\ w'.cell? ⟨bw, 1, none⟩ = some (.slice a6 n6 c6) /\ w'.cell? ⟨bw, 2, none⟩ = some (.slice d6 k6 e6) /\ w'.cell? ⟨bb, 0, none⟩ = some (.bool s5) /\ w'.cell? ⟨bb, 1, none⟩ = some (.slice a5 n5 c5) /\ w'.cell? ⟨bb, 2, none⟩ = some (.slice d5 k5 e5))
            (first | exact hS.out noY _ t1 rfl rfl rfl | exact hS.out (ob a) _ ((ExtX.of t1).trans hset.2) haob.out hab.out habb.out | go_keep)
            ((go_at_call 236; (with_reducible refine qd2.mono ?_); rintro ee w7 ⟨t1, u7, ec7, rfl, hu7⟩; obtain ⟨s7, a7, n7, c7, d7, k7, e7, rfl⟩ := hu7.shape; have hO7 := hR6.ext0 QC.elem t1; obtain ⟨_, v0, v1, v2, _, ⟨g0, f0⟩, ⟨g1, f1⟩, ⟨g2, f2⟩, _⟩ := hO7.cell3 j hjm hg.out; have hset := hO7.set3 tyRat QC.elem j hjm hg.out (v0 := .bool s7) (v1 := .slice a7 n7 c7) (v2 := .slice d7 k7 e7) (x := v) (by rw [hun.out]; exact hu7)))
          obtain ⟨q1, q2⟩ := hset
          rw [hjs.out] at q1
          obtain ⟨w8, hw8⟩ : ∃ w8, ((w7.setCell ⟨g, o, none⟩ (.bool s7)).setCell ⟨g, o + 1, none⟩ (.slice a7 n7 c7)).setCell ⟨g, o + 2, none⟩ (.slice d7 k7 e7) = w8 := ⟨_, rfl⟩
          rw [hw8] at q1 q2 |-
          have q2' : ExtX (ob hs'[i].1) w7 w8 := by rw [hhd'.out]; exact q2
          have hM7 := (hM6.ext0 t1).upd hih (l := mix R row (j + 1)) q2' (fun hi' => by rw [List.getElem_set_self, mix_len hRr.out, mix_len hRr.out]) (by rw [hhd'.out]; exact q1)
          rw [List.set_set] at hM7
          have hP8 := (hP6.ext0 (NatIn.elem _) t1).frame (NatIn.pure _) q2 (fun k hk => by
            cases hb : ob a k
            · rfl
            · have := (hsp2.out k hb).1; rw [un_right hk] at this; simp at this) hP.1
          have hB8 := (hB6.ext0 t1).ext q2 habb.out
          have hq8 := QV.mono _ _ _ _ (mk_mono q2 hz1) (mkx QV.mono hb6 t1)
          have hE8 := (hE.trans (ExtX.of (hE6d.trans t1))).trans (show ExtX (mb ao hs) w7 w8 by rw [<- hmb'.out]; exact ExtX.row hih q2')
          clear k00 k10 k11 k12 k20 k21 k22 g0 g1 g2 f0 f1 f2 i1 i2 hw8
          go_wp2_with fail
          go_roundw
          case rel => exact ⟨j + 1, by go_num, by omega, hM7, hP8, hB8, hq8, hE8⟩
          case measure => simp [intOf]; omega
        · have hjn : j = na := by omega
          subst hjn
          rw [mix_full (by rw [hRl.out]; exact Nat.le_refl _) (by rw [hrl.out]; exact Nat.le_refl _), hdiv.out] at hM
          obtain ⟨D2, hD2⟩ : ∃ D2, divL D i col = D2 := ⟨_, rfl⟩
          have hsh2 : Shp n j D2 := by rw [<- hD2]; exact hDs.divL hin col
          have hbnd : Hid (∀ t, t < i -> BR 68719476736 (D2.getD t []) /\ BR 68719476736 (D2.getD i []) /\ hq ((D2.getD t []).getD col 0 / (D2.getD i []).getD col 0) <= 68719476736 /\ ∀ x ∈ D2.getD i [], hq ((D2.getD t []).getD col 0 / (D2.getD i []).getD col 0 * x) <= 68719476736) := hid fun t ht => by
            rw [<- hD2]; exact elim_bounds2 hDs hDBi hin (by omega) (by omega) hDbi
          have hdn2 : Hid (above D2 i col i = dN E p (i + 1)) := hid (by rw [hdn.out]; unfold dStep; rw [hD2])
          rw [hD2] at hM
          have hD2l := hid hsh2.1
          have hM' : MO (un X po) base 26 41 wr ao cap hs' (above D2 i col 0) := by rw [above_zero]; exact hM
          have hicap : i <= cap := by omega
          have f1 : ∀ W, (Instr.sliceAt 25 (.slice ao n cap) none (some (.int .i64 (i : Int))) none).run Tryz.prog W = .ok (.slice ao i cap) W := run_slice_to slRats n cap .i64 i hicap
          have hhOi : Hd ao i := fun h0 => hhO (by omega)
          clear hM hD2 hB7 hq7
          go_wp2_with fail
          go_loopw [58] (fun k wx => ∃ (s : Nat), k = .int .i64 s /\ s <= i /\ MO (un X po) base 26 41 wx ao cap hs' (above D2 i col s) /\ OL (NatIn .i64) 1 (mz X ao hs) w.heap.size 3 wx po pc p /\ ExtX (mb ao hs) w wx) (fun k _ => i - (intOf k).toNat)
          case atStart => exact ⟨0, rfl, Nat.zero_le _, hM', hP, hE⟩
          case round =>
            obtain ⟨s, rfl, hs9, hM8, hP8, hE8⟩ := hrel
            by_cases hls : s < i
            · have htn : s < n := by omega
              have hth : s < hs'.length := by rw [hlen.out]; exact htn
              have htm : s < D2.length := by rw [hD2l.out]; exact htn
              have hpm : i < D2.length := by rw [hD2l.out]; exact hin
              have htc : s < (above D2 i col s).length := by rw [above_len]; exact htm
              have hpc : i < (above D2 i col s).length := by rw [above_len]; exact hpm
              obtain ⟨a1, n1, c1, hh1⟩ : ∃ a n c, hs'[s] = (a, n, c) := ⟨_, _, _, rfl⟩
              have hg1 : (above D2 i col s)[s] = D2[s] := by rw [above_get htc htm, if_neg (by omega)]
              have hg2 : (above D2 i col s)[i] = D2[i] := by rw [above_get hpc hpm, if_neg (by omega)]
              have hn1' : n1 = j := by
                have := hM8.rlen s hth htc
                rw [hh1, hg1, hsh2.2 _ (List.getElem_mem _)] at this; exact this
              subst hn1'
              have hR1 := hM8.row s hth htc
              have hR2 := hM8.row i hih hpc
              rw [hg1] at hR1
              rw [hg2] at hR2
              simp only [hh1] at hR1
              simp only [hhd'.out] at hR2
              have hzz1 := fun k (hk : ob a1 k = true) => hM8.mz_sub hth k (by rw [hh1]; exact hk)
              have hzz2 := fun k (hk : ob a k = true) => hM8.mz_sub hih k (by rw [hhd'.out]; exact hk)
              have hds : ∀ k, ob a1 k = true -> ob a k = false := fun k hk => by
                have := hM8.dis s i hth hih (by omega) k (by rw [hh1]; exact hk)
                rw [hhd'.out] at this; exact this
              have hsp1 := fun k (hk : ob a1 k = true) => hM8.sep s hth k (by rw [hh1]; exact hk)
              have hBn := hbnd.out s hls
              rw [getD_row htm] at hBn
              have hcs : Hid ((above D2 i col s).set s (elimL D2[s] (D2.getD i []) col) = above D2 i col (s + 1)) := hid (above_set htm hls)
              have hpe : D2.getD i [] = D2[i] := getD_row hpm
              rw [<- hpe] at hR2
              have hrl1 := hid (hsh2.2 D2[s] (List.getElem_mem _))
              have hrl2 := hid (show (D2.getD i []).length = n1 by rw [hpe]; exact hsh2.2 _ (List.getElem_mem _))
              obtain ⟨rw1, hrow1⟩ : ∃ rw1, D2[s] = rw1 := ⟨_, rfl⟩
              obtain ⟨piv, hpiv⟩ : ∃ piv, D2.getD i [] = piv := ⟨_, rfl⟩
              rw [hrow1, hpiv] at hcs
              rw [hrow1] at hR1 hrl1
              rw [hpiv] at hR2 hrl2
              rw [hrow1, hpiv] at hBn
              have hX8 : HX (un X po) wr := fun k hk => by
                by_cases hx : X k = true
                · exact hn0.out.ext hE8 k hx
                · exact (hP8.block (by simpa [un, hx] using hk)).2
              have hZ8 := hM8.hz hX8
              have hel := eliminate_any (mz (un X po) ao hs') base wr a1 a c1 cr n1 col rw1 piv hZ8 hR1 hR2 hzz1 hzz2 hds hrl1.out hrl2.out (by omega) hcl hBn.1 hBn.2.1 hBn.2.2.1 hBn.2.2.2
              have y1 : wr.cell? (adr ao s) = some (.slice a1 n1 c1) := by
                have := (hM8.hdr s hth).1
                rw [hh1] at this; exact this
              have y2 : wr.cell? (adr ao i) = some (.slice a n1 cr) := by
                have := (hM8.hdr i hih).1
                rw [hhd'.out] at this; exact this
              have hh1' := hid hh1
              clear hg1 hg2 hpe hrow1 hpiv hh1 hR1 hR2 hBn f1
              go_wp2_with (with_reducible refine up_ix1 slRats (by omega) (by assumption) ?_)
              refine hel.mono ?_
              rintro ee w7 ⟨rfl, t1, hO7⟩
              have hEr : ExtX (ob hs'[s].1) wr w7 := by rw [hh1'.out]; exact t1
              have hM9 := hM8.upd hth (l := elimL rw1 piv col) hEr (fun hi' => by
                rw [above_get htc htm, if_neg (by omega), elimL_len _ _ _ (by rw [hrl1.out, hrl2.out]), hrl2.out]
                exact (hsh2.2 _ (List.getElem_mem _)).symm) (by rw [hh1'.out]; exact hO7)
              rw [hcs.out] at hM9
              have hP9 := hP8.frame (NatIn.pure _) t1 (fun k hk => by
                cases hb : ob a1 k
                · rfl
                · have := (hsp1 k hb).1; rw [un_right hk] at this; simp at this) hP8.1
              have hE9 := hE8.trans (show ExtX (mb ao hs) wr w7 by rw [<- hmb'.out]; exact ExtX.row hth hEr)
              clear y1 y2
              go_wp2_with fail
              go_roundw
              case rel => exact ⟨s + 1, by go_num, by omega, hM9, hP9, hE9⟩
              case measure => simp [intOf]; omega
            · have hsi : s = i := by omega
              subst hsi
              rw [hdn2.out] at hM8
              go_wp2_with fail
              go_roundw
              case rel => exact ⟨s + 1, by go_num, by omega, hM8, hP8, hE8⟩
              case measure => simp [intOf]; omega
    · have hil : i = pl := by omega
      subst hil
      rw [<- hpl'.out] at hM
      go_wp2_with fail
      go_ret
      exact ⟨hE, po, pc, hs', by rw [hpl'.out]; rfl, hmb'.out, hM, hP⟩
end Go.Proofs.YtnnpfhoigmegcaaGreat
namespace Go.Proofs.YtnnpfhoigmegcaaGreat
open Go.RowKit Go.Rep Go.Lim Go.Lin
def M3Out (X : Nat -> Bool) (w : World) (m : List (List Rat)) (p : List Nat) (e : Ending) (w' : World) : Prop := Ext w w' /\ ∃ u v, e = .returned (.tuple #[u, v, .int .i64 0]) /\ MC (mk X w') u m /\ SlV (NatIn .i64) 1 (mk X w') v p
theorem preduce_ok (X : Nat -> Bool) (w : World) (u : Value) (m : List (List Rat)) (hX : HX X w) (hu : MV (mk X w) u m) (hf : formedB m = true) (hT : Tame m (colsL m)) : Calls Tryz.prog 251 #[u] w (M3Out X w (redP m (colsL m)).1 (redP m (colsL m)).2) := by
  obtain ⟨hsh, h96, hc96, _, _⟩ := formedB_shp hf
  have hfo := formed_any X w u m hu (by omega)
  rw [hf] at hfo
  have hco := copied_any X w u m m.length (colsL m) hX hu hsh rfl (by omega) (by omega)
  have hrs := hid (redP_ok hsh).1
  clear hf
  go_enter Tryz.func251, Tryz.ntmps251
  go_wp2_with fail
  refine hfo.mono ?_
  rintro e w1 ⟨rfl, rfl⟩
  go_wp2_with fail
  refine hco.mono ?_
  rintro e w2 ⟨hE2, ao, cap, hs, rfl, hM2⟩
  go_wp2_with fail
  refine (mreduce_any X _ w2 ao cap m.length (colsL m) hs m (hX.ext hE2) hM2 hsh rfl (by omega) (by omega) hT).mono ?_
  rintro e w3 ⟨hE3, po, pc, hs', rfl, hmb, hM3, hP3⟩
  have hEf := hM2.ext_from hE2 (Nat.le_refl _) hE3
  have hmc := MC.mono _ _ _ _ (mk_sub (X := X) fun k _ hk => un_left hk) hM3.mc
  have hps : SlV (NatIn .i64) 1 (mk X w3) (.slice po (redP m (colsL m)).2.length pc) (redP m (colsL m)).2 := ⟨po, pc, rfl, hP3.lenCap, (hP3.sl (NatIn.elem _)).mono (NatIn.mono _) (mk_sub fun k _ hk => mz_iff.2 (.inl hk))⟩
  rw [hrs.out.1] at hmc
  go_wp2_with fail
  go_ret3
  exact ⟨hEf, _, _, rfl, hmc, hps⟩
end Go.Proofs.YtnnpfhoigmegcaaGreat
namespace Go.Lin
open Go.Lim
def xN (R : Mat) (p : List Nat) (c col : Nat) : Nat -> List Rat
  | 0 => (List.replicate c 0).set col 1
  | i + 1 => (xN R p c col i).set (p.getD i 0) (- ent R i col)
theorem xN_len (R : Mat) (p : List Nat) (c col i : Nat) : (xN R p c col i).length = c := by
  induction i with
  | zero => show ((List.replicate c (0 : Rat)).set col 1).length = c; rw [List.length_set, List.length_replicate]
  | succ i ih => show ((xN R p c col i).set _ _).length = c; rw [List.length_set, ih]
theorem xN_get {n c col : Nat} {R : Mat} {p : List Nat} (hr : Rref n c (ent R) p) (hcp : col ∉ p) (i : Nat) (hi : i <= p.length) (x : Nat) (hx : x < c) : (xN R p c col i).getD x 0 = if x = col then 1 else match p.findIdx? (· == x) with | some k => if k < i then - ent R k col else 0 | none => 0 := by
  induction i with
  | zero =>
    show ((List.replicate c (0 : Rat)).set col 1).getD x 0 = _
    rw [List.getD_eq_getElem?_getD, List.getElem?_set, List.length_replicate]
    by_cases h : col = x
    · subst h; rw [if_pos rfl, if_pos hx, if_pos rfl]; rfl
    · rw [if_neg h, if_neg (Ne.symm h)]
      have : ((List.replicate c (0 : Rat))[x]?).getD 0 = 0 := by simp [hx]
      rw [this]; cases p.findIdx? (· == x) <;> simp
  | succ i ih =>
    have hip : i < p.length := by omega
    have hpi : p.getD i 0 = p[i] := by simp [List.getD_eq_getElem?_getD, hip]
    show ((xN R p c col i).set (p.getD i 0) (- ent R i col)).getD x 0 = _
    rw [hpi, List.getD_eq_getElem?_getD, List.getElem?_set, xN_len]
    by_cases h : p[i] = x
    · have hxc : x ≠ col := by rintro rfl; exact hcp (h ▸ List.getElem_mem _)
      rw [if_pos h, if_pos (by omega), if_neg hxc, <- h, hr.idx i hip]; simp
    · rw [if_neg h, <- List.getD_eq_getElem?_getD, ih (by omega)]
      cases hf : p.findIdx? (· == x) with
      | none => rfl
      | some k =>
        obtain ⟨hk1, hk2, _⟩ := List.findIdx?_eq_some_iff_getElem.1 hf
        have hki : k ≠ i := by rintro rfl; exact h (by simpa using hk2)
        dsimp only
        by_cases h2 : k < i
        · rw [if_pos h2, if_pos (show k < i + 1 by omega)]
        · rw [if_neg h2, if_neg (show ¬ k < i + 1 by omega)]
theorem xN_full {n c col : Nat} {R : Mat} {p : List Nat} (hr : Rref n c (ent R) p) (hcp : col ∉ p) : xN R p c col p.length = (List.range c).map (nv (ent R) p col) := by
  refine List.ext_getElem (by rw [xN_len]; simp) fun x h1 h2 => ?_
  have hx : x < c := by rw [xN_len] at h1; exact h1
  have := xN_get hr hcp _ (Nat.le_refl _) x hx
  rw [List.getD_eq_getElem?_getD, List.getElem?_eq_getElem h1] at this
  rw [show (xN R p c col p.length)[x] = _ from this]
  simp only [List.getElem_map, List.getElem_range]
  unfold nv
  by_cases h : x = col
  · rw [if_pos h, if_pos h]
  · rw [if_neg h, if_neg h]
    cases hf : p.findIdx? (· == x) with
    | none => rfl
    | some k =>
      obtain ⟨hk1, _⟩ := List.findIdx?_eq_some_iff_getElem.1 hf
      dsimp only
      rw [if_pos hk1]
def nullK (r : F2) (p : List Nat) (c k : Nat) : Mat := ((List.range k).filter (· ∉ p)).map fun j => (List.range c).map (nv r p j)
theorem nullK_skip (r : F2) {p : List Nat} (c : Nat) {k : Nat} (h : k ∈ p) : nullK r p c (k + 1) = nullK r p c k := by
  unfold nullK; rw [List.range_succ, List.filter_append]; simp [h]
theorem nullK_push (r : F2) {p : List Nat} (c : Nat) {k : Nat} (h : k ∉ p) : nullK r p c (k + 1) = nullK r p c k ++ [(List.range c).map (nv r p k)] := by
  unfold nullK; rw [List.range_succ, List.filter_append, List.map_append]; simp [h]
theorem tame_bm {m : Mat} {c : Nat} (h : Tame m c) : Go.Rep.BM 9817068105 (redP m c).1 := by
  obtain ⟨B, h1, _, h3⟩ := h
  have := (h3 _ (Nat.le_refl _)).bm
  exact fun r hr q hq => Nat.le_trans (this r hr q hq) (by omega)
end Go.Lin
namespace Go.Proofs.YtnnpfhoigmegcaaGreat
open Go.RowKit Go.Rep Go.Lim Go.Lin
theorem indexint_any (X : Nat -> Bool) (w : World) (ao : Option Addr) (l : List Nat) (n c x : Nat) (hs : Sl (NatIn .i64) 1 (mk X w) ao l) (hl : l.length = n) (hn : n <= 1000000) : Calls Tryz.prog 303 #[.slice ao n c, .int .i64 (x : Int)] w (fun e w' => w' = w /\ ∃ k : Int, e = .returned (.int .i64 k) /\ (0 <= k ↔ x ∈ l)) := by
  have hh : Hd ao n := by have := hs.hd; rw [hl] at this; exact this
  have hl' := hid hl
  clear hl
  go_enter Tryz.func303, Tryz.ntmps303
  go_wp2_with fail
  go_loopw [8] (fun k wr => ∃ (i : Nat), k = .int .i64 i /\ i <= n /\ Hid (∀ q (hq : q < l.length), q < i -> l[q] ≠ x) /\ wr = w) (fun k _ => n - (intOf k).toNat)
  case atStart => exact ⟨0, rfl, Nat.zero_le _, hid (fun q hq h => by omega), rfl⟩
  case round =>
    obtain ⟨i, rfl, hi, hok, rfl⟩ := hrel
    by_cases hlt : i < n
    · have hil : i < l.length := by rw [hl'.out]; exact hlt
      have hc := hs.nat i hil
      by_cases hx : l[i] = x
      · have hb : ((x : Int) == (l[i] : Int)) = true := beqT (by omega)
        have hm : Hid (x ∈ l) := hid (hx ▸ List.getElem_mem _)
        obtain ⟨y, hy⟩ : ∃ y, (l[i] : Int) = y := ⟨_, rfl⟩
        rw [hy] at hc hb
        clear hx hy
        go_wp2_with (with_reducible refine up_ix1 slInt (by omega) (by assumption) ?_)
        go_ret
        exact ⟨rfl, _, rfl, ⟨fun _ => hm.out, fun _ => by omega⟩⟩
      · have hb : ((x : Int) == (l[i] : Int)) = false := beqF (by omega)
        have hok2 : Hid (∀ q (hq : q < l.length), q < i + 1 -> l[q] ≠ x) := hid fun q hq hqi => by
          by_cases h : q = i
          · subst h; exact hx
          · exact hok.out q hq (by omega)
        obtain ⟨y, hy⟩ : ∃ y, (l[i] : Int) = y := ⟨_, rfl⟩
        rw [hy] at hc hb
        clear hx hy
        go_wp2_with (with_reducible refine up_ix1 slInt (by omega) (by assumption) ?_)
        go_roundw
        case rel => exact ⟨i + 1, by go_num, by omega, hok2, trivial⟩
        case measure => simp [intOf]; omega
    · have hno : Hid (x ∉ l) := hid fun hm => by
        obtain ⟨q, hq, hqx⟩ := List.getElem_of_mem hm
        exact hok.out q hq (by rw [hl'.out] at hq; omega) hqx
      go_wp2_with fail
      go_ret
      exact ⟨rfl, _, rfl, ⟨fun h => by omega, fun h => absurd h hno.out⟩⟩
theorem contains_any (X : Nat -> Bool) (w : World) (ao : Option Addr) (l : List Nat) (n c x : Nat) (hs : Sl (NatIn .i64) 1 (mk X w) ao l) (hl : l.length = n) (hn : n <= 1000000) : Calls Tryz.prog 253 #[.slice ao n c, .int .i64 (x : Int)] w (fun e w' => w' = w /\ e = .returned (.bool (decide (x ∈ l)))) := by
  have h1 := indexint_any X w ao l n c x hs hl hn
  clear hs hl hn
  go_enter Tryz.func253, Tryz.ntmps253
  go_wp2_with fail
  refine h1.mono ?_
  rintro e w1 ⟨rfl, k, rfl, hk⟩
  have hd : Hid (decide (0 <= k) = decide (x ∈ l)) := hid (decide_eq_decide.2 hk)
  clear hk
  go_wp2_with fail
  go_ret
  exact ⟨rfl, ret_bool hd.out⟩
set_option maxRecDepth 100000 in
set_option maxHeartbeats 1600000 in
theorem null_ok (X : Nat -> Bool) (w : World) (u : Value) (m : List (List Rat)) (n c : Nat) (hX : HX X w) (hu : MV (mk X w) u m) (hf : formedB m = true) (hnn : m.length = n) (hcc : colsL m = c) (hT : Tame m c) : Calls Tryz.prog 205 #[u] w (M2Out X w (nullL (ent (redP m c).1) (redP m c).2 c)) := by
  obtain ⟨hsh, h96, hc96, hpos, _⟩ := formedB_shp hf
  rw [hnn, hcc] at hsh
  rw [hnn] at h96
  rw [hcc] at hc96
  have hrd := preduce_ok X w u m hX hu hf (by rw [hcc]; exact hT)
  rw [hcc] at hrd
  have hcol := hid (fun w' (h : Ext w w') => columns_any X w' u m (mkx MV.mono hu h))
  rw [hcc] at hcol
  have hok := redP_ok hsh
  have hbm := hid (tame_bm hT)
  obtain ⟨⟨R, p⟩, hRp⟩ : ∃ S, redP m c = S := ⟨_, rfl⟩
  rw [hRp] at hrd hok hbm |-
  dsimp only at hrd hok hbm |-
  have hRs := hid hok.1
  have hRr := hid hok.2.1
  obtain ⟨pl, hpl⟩ : ∃ pl, p.length = pl := ⟨_, rfl⟩
  have hpl' := hid hpl
  have hpn : pl <= n := by have := hok.2.1.le; omega
  have hfull : Hid (nullK (ent R) p c c = nullL (ent R) p c) := hid rfl
  obtain ⟨ua, uca, rfl, huca, hua⟩ := hu
  clear hok hT hsh hf hnn hcc hRp huca hua hpos hpl
  go_enter Tryz.func205, Tryz.ntmps205
  go_wp2_with fail
  refine hrd.mono ?_
  rintro e w1 ⟨hE1, ur, uv, rfl, hur, huv⟩
  obtain ⟨ra, rca, rfl, hrca, hra⟩ := hur
  obtain ⟨pa, pca, rfl, hpca, hpa⟩ := huv
  have hhr : Hd ra n := by have := hra.hd; rw [hRs.out.1] at this; exact this
  have hhp : Hd pa pl := by have := hpa.hd; rw [hpl'.out] at this; exact this
  have hX1 := hX.ext hE1
  rw [hRs.out.1, hpl'.out]
  clear hrd
  go_wp2_with fail
  refine (hcol.out w1 hE1).mono ?_
  rintro e w2 ⟨rfl, rfl⟩
  go_wp2_with fail
  go_loopw [7, 23] (fun o kk wr => ∃ (k q : Nat) (oo : Option Addr) (co : Nat), kk = .int .i64 k /\ o = .slice oo q co /\ k <= c /\ q <= k /\ Hid ((nullK (ent R) p c k).length = q) /\ OL RC 1 X w2.heap.size 26 wr oo co (nullK (ent R) p c k) /\ Ext w2 wr) (fun _ kk _ => c - (intOf kk).toNat)
  case atStart => exact ⟨0, 0, none, 0, rfl, rfl, Nat.zero_le _, Nat.le_refl _, hid rfl, OL.nil _ _ _ _ _ _, ExtX.refl _⟩
  case round =>
    obtain ⟨k, q, oo, co, rfl, rfl, hk, hqk, hlq, hO, hE⟩ := hrel
    by_cases hlt : k < c
    · have hXr : HX X wr := hX1.ext hE
      have hXu : HX (un X oo) wr := hO.unX hXr
      have hcon := contains_any X wr pa p pl pca k (hpa.mono (NatIn.mono _) (mk_ext hE)) hpl'.out (by omega)
      have hw2r := hE.size
      by_cases hkp : k ∈ p
      · rw [decide_eq_true hkp] at hcon
        have hsk := hid (nullK_skip (ent R) c hkp)
        clear hkp
        go_wp2_with fail
        refine hcon.mono ?_
        rintro e w3 ⟨rfl, rfl⟩
        rw [<- hsk.out] at hO hlq
        go_wp2_with fail
        go_roundw
        case rel => exact ⟨k + 1, q, oo, co, by go_num, rfl, by omega, by omega, hlq, hO, hE⟩
        case measure => simp [intOf]; omega
      · rw [decide_eq_false hkp] at hcon
        have hps := hid (nullK_push (ent R) c hkp)
        have hxf := hid (xN_full hRr.out hkp)
        rw [hpl'.out] at hxf
        have hcl := hcol.out wr (hE1.trans hE)
        clear hkp
        obtain ⟨wo, hwo⟩ : ∃ wo, wo = wr := ⟨_, rfl⟩
        subst hwo
        go_wp2_with fail
        refine hcon.mono ?_
        rintro e w3 ⟨rfl, rfl⟩
        go_wp2_with fail
        refine hcl.mono ?_
        rintro e w4 ⟨rfl, rfl⟩
        clear hcon hcl
        go_wp2_with ((with_reducible show wpList _ _ _ (⟨_, .makeSlice _ _ _, _, _, _, _⟩ :: _) _ _); refine st_make (R := QC) slRat QC.elem (0 : Rat) (fun _ => QC.zero _) (un X oo) hXu w4.heap.size (Nat.le_refl _) c rfl rfl rfl (by omega) (by omega) ?_; intro xo w5 hO5 hE5)
        have hob := hid (fun k (hk : ob xo k = true) => hO5.block hk)
        have hxd : Hd xo c := by have := hO5.hd; rw [List.length_replicate] at this; exact this
        obtain ⟨Z, hZe⟩ : ∃ Z, un (un X oo) xo = Z := ⟨_, rfl⟩
        have hZ' := hid hZe
        have hZ5 : HX Z w5 := by rw [<- hZe]; exact hO5.unX (hXu.ext hE5)
        have hoob := hid (fun k (hk : ob oo k = true) => hO.block hk)
        have hXr' := hid hXr
        have hzold : Hid (∀ k, k < w2.heap.size -> Z k = true -> X k = true) := hid fun k hk hz => by
          rw [<- hZ'.out] at hz
          by_cases h1 : X k = true
          · exact h1
          · by_cases h2 : ob oo k = true
            · have := (hoob.out k h2).1; omega
            · have h3 : ob xo k = true := by simpa [un, h1, h2] using hz
              have := (hob.out k h3).1; omega
        have h1r : ((1 : Int) : Rat) = 1 := by decide +kernel
        have hqf := qfrom Z w5 1 hZ5 (by omega) (by omega)
        rw [h1r] at hqf
        have hkr : k < (List.replicate c (0 : Rat)).length := by rw [List.length_replicate]; exact hlt
        clear h1r hZe
        go_wp2_with fail
        refine hqf.mono ?_
        rintro e w6 ⟨hE6, u6, rfl, hu6⟩
        have hO6 := hO5.ext0 QC.elem hE6
        go_wp2_with (first | (with_reducible refine up_ixn slRat (by omega) (by assumption) ?_) | ((with_reducible show wpList _ _ _ (⟨_, .store 41 _ _, _, _, _, _⟩ :: _) _ _); refine st_store tyRat QC.elem k rfl (by simp) hO6 hkr _ 1 rfl (by rw [hZ'.out]; exact hu6) ?_; intro w7 hO7 hE7))
        have hE47 : Ext w4 w7 := (hE5.trans hE6).own hO6 (Nat.le_refl _) hE7
        clear hqf hO5 hO6
        go_loopw [38] (fun kk wi => ∃ (j : Nat), kk = .int .i64 j /\ j <= pl /\ OL QC 3 (un X oo) w4.heap.size 41 wi xo c (xN R p c k j) /\ Ext w4 wi) (fun kk _ => pl - (intOf kk).toNat)
        case atStart => exact ⟨0, rfl, Nat.zero_le _, hO7, hE47⟩
        case round =>
          obtain ⟨j, rfl, hj, hOx, hEx⟩ := hrel
          have hE2x := hE.trans hEx
          by_cases hlj : j < pl
          · have hjp : j < p.length := by rw [hpl'.out]; exact hlj
            have hpc := (hpa.mono (NatIn.mono _) (mk_ext hE2x)).nat j hjp
            have hpc1 : Hid (p[j] < c) := hid (hRr.out.lt j hjp)
            have hgd : Hid (p.getD j 0 = p[j]) := hid (by simp [List.getD_eq_getElem?_getD, hjp])
            obtain ⟨y, hy⟩ : ∃ y, p[j] = y := ⟨_, rfl⟩
            rw [hy] at hpc hpc1 hgd
            have hyc : y < c := hpc1.out
            have hjR : j < R.length := by rw [hRs.out.1]; omega
            have hrz : Sl RC 1 (mk Z wr) ra R := hra.mono RC.mono (mk_over hE2x (fun k _ hk => by simp [noY] at hk) hzold.out)
            obtain ⟨a1, c1, hX1', hc1, hcl1, hq1⟩ := hrz.row j hjR
            have k00 := hc1.out noY wr (ExtX.refl _) rfl
            have hxl : Hid (R[j].length = c) := hid (hRs.out.2 _ (List.getElem_mem _))
            have hxe : Hid (∀ h : k < R[j].length, R[j][k] = ent R j k) := hid fun h => by unfold ent; rw [show R.getD j [] = R[j] by simp [List.getD_eq_getElem?_getD, hjR]]; simp [List.getD_eq_getElem?_getD, h]
            have hbr := hid (hbm.out R[j] (List.getElem_mem _))
            obtain ⟨x, hx⟩ : ∃ x, R[j] = x := ⟨_, rfl⟩
            rw [hx] at k00 hcl1 hq1 hxl hxe hbr
            rw [hxl.out] at k00 hcl1
            have hh1 : Hd a1 c := by have := hq1.hd; rw [hxl.out] at this; exact this
            have hkx : k < x.length := by rw [hxl.out]; exact hlt
            have hxk := hid (hxe.out hkx)
            have hbk := hid (hbr.out x[k] (List.getElem_mem _))
            have hZr : HX Z wr := by
              rw [<- hZ'.out]
              exact hOx.unX (hXu.ext hEx)
            have hyx : y < (xN R p c k j).length := by rw [xN_len]; exact hyc
            have hst : Hid ((xN R p c k j).set y (- ent R j k) = xN R p c k (j + 1)) := hid (by rw [<- hgd.out]; rfl)
            obtain ⟨v, hv⟩ : ∃ v, x[k] = v := ⟨_, rfl⟩
            rw [hv] at hxk hbk
            have hv' := hid hv
            clear hx hc1 hy hv
            go_wp2_with (first | (with_reducible refine up_ix1 slInt (by omega) (by assumption) ?_) | (with_reducible refine up_ix1 slRats (by omega) (by assumption) ?_) | (with_reducible refine up_ixn slRat (by omega) (by assumption) ?_) | ((with_reducible show wpList _ _ _ (⟨_, .load 41 _, _, _, _, _⟩ :: _) _ _); refine st_loadElem stRat k hq1 hkx rfl (by simp) QC.agg ?_; intro u8 hu8; rw [hv'.out] at hu8; obtain ⟨s8, a8, n8, c8, d8, k8, e8, rfl⟩ := hu8.shape))
            refine (qneg Z wr _ v hZr (hu8.qv (by have := hbk.out; omega))).mono ?_
            rintro e w9 ⟨hE9, u9, rfl, hu9⟩
            have hO9 := hOx.ext0 QC.elem hE9
            rw [hxk.out] at hu9
            clear k00 hpc
            go_wp2_with (first | (with_reducible refine up_ixn slRat (by omega) (by assumption) ?_) | ((with_reducible show wpList _ _ _ (⟨_, .store 41 _ _, _, _, _, _⟩ :: _) _ _); refine st_store tyRat QC.elem y rfl (by simp) hO9 hyx _ (- ent R j k) rfl (by rw [hZ'.out]; exact hu9) ?_; intro w10 hO10 hE10))
            rw [hst.out] at hO10
            have hEx2 : Ext w4 w10 := (hEx.trans hE9).own hO9 (Nat.le_refl _) hE10
            go_roundw
            case rel => exact ⟨j + 1, by go_num, by omega, hO10, hEx2⟩
            case measure => simp [intOf]; omega
          · have hjl : j = pl := by omega
            subst hjl
            rw [hxf.out] at hOx
            obtain ⟨L, hL⟩ : ∃ L, (List.range c).map (nv (ent R) p k) = L := ⟨_, rfl⟩
            rw [hL] at hOx hps
            have hLl : L.length = c := by rw [<- hL]; simp
            have hsx := hOx.sl QC.elem
            have hlc := hOx.lenCap
            have hOw := hO.ext0 RC.elem hEx
            have hszx := hEx.size
            clear hL
            go_wp2_with (at_builtin; refine st_append1n (l := nullK (ent R) p c k) slRats rfl RC.elem (by omega) (hXr'.out.ext hEx) q hlq.out rfl rfl hOw (.slice xo c c) L rfl ⟨xo, c, by rw [hLl], hlc, hsx⟩ (by omega) (by omega) ?_; intro oo2 co2 w11 hO11 hE11 hor)
            have hE12 := (hE.trans hEx).own hOw (Nat.le_refl _) hE11
            rw [<- hps.out] at hO11
            have hlq2 : Hid ((nullK (ent R) p c (k + 1)).length = q + 1) := hid (by rw [hps.out, List.length_append, hlq.out]; rfl)
            go_roundw
            case rel => exact ⟨k + 1, q + 1, oo2, co2, by go_num, by go_num, by omega, by omega, hlq2, hO11, hE12⟩
            case measure => simp [intOf]; omega
    · have hkc : k = c := by omega
      subst hkc
      rw [hfull.out] at hO hlq
      have hc := hO.lenCap
      have hs := hO.sl RC.elem
      go_wp2_with fail
      go_ret2
      exact ⟨hE1.trans hE, .slice oo q co, rfl, oo, co, by rw [hlq.out], hc, hs⟩
end Go.Proofs.YtnnpfhoigmegcaaGreat
namespace Go.Lin
open Go.Lim
end Go.Lin
namespace Go.Lin
open Go.Lim
end Go.Lin
namespace Go.Lin
open Go.Lim
def fn (l : List Rat) : Nat -> Rat := fun i => l.getD i 0
theorem NS.congr {n c : Nat} {f f' : F2} {y y' b b' : Nat -> Rat} (h : NS n c f y b) (hf : Eqm n c f f') (hy : ∀ i, i < n -> y i = y' i) (hb : ∀ j, j < c -> b j = b' j) : NS n c f' y' b' := fun i hi => by
  have e1 : ∀ j, j < c -> gr n f i j = gr n f' i j := fun j hj => sm_congr fun r hr => by rw [hf r hr i hi, hf r hr j hj]
  have e2 : gy n f y i = gy n f' y' i := sm_congr fun r hr => by rw [hf r hr i hi, hy r hr]
  rw [<- e2, <- h i hi]
  exact sm_congr fun j hj => by rw [e1 j hj, hb j hj]
theorem Nul.congr {n c : Nat} {f f' : F2} {x : Nat -> Rat} (h : Nul n c f x) (e : Eqm n c f f') : Nul n c f' x := ((RE.same e).nul x).1 h
end Go.Lin
namespace Go.Lin
open Go.Lim
def sumL (l : List Rat) : Rat := sm l.length (fn l)
theorem sm_head : ∀ (n : Nat) (F : Nat -> Rat), sm (n + 1) F = F 0 + sm n fun i => F (i + 1)
  | 0, F => by show (0 : Rat) + F 0 = F 0 + 0; grind
  | n + 1, F => by
    show sm (n + 1) F + F (n + 1) = _
    rw [sm_head n F]
    show _ = F 0 + (sm n (fun i => F (i + 1)) + F (n + 1))
    grind
theorem sumL_nil : sumL [] = 0 := rfl
theorem sumL_cons (x : Rat) (l : List Rat) : sumL (x :: l) = x + sumL l := by
  unfold sumL
  rw [List.length_cons, sm_head]
  rfl
theorem sumL_app (a b : List Rat) : sumL (a ++ b) = sumL a + sumL b := by
  induction a with
  | nil => rw [sumL_nil, List.nil_append]; grind
  | cons x a ih => rw [List.cons_append, sumL_cons, sumL_cons, ih]; grind
theorem sumL_perm {a b : List Rat} (h : a.Perm b) : sumL a = sumL b := by
  induction h with
  | nil => rfl
  | cons x _ ih => rw [sumL_cons, sumL_cons, ih]
  | swap x y l => rw [sumL_cons, sumL_cons, sumL_cons, sumL_cons]; grind
  | trans _ _ h1 h2 => exact h1.trans h2
def srt (l : List Rat) : List Rat := l.mergeSort fun a b => decide (a <= b)
theorem srt_perm (l : List Rat) : (srt l).Perm l := List.mergeSort_perm _ _
theorem srt_len (l : List Rat) : (srt l).length = l.length := (srt_perm l).length_eq
theorem srt_pw (l : List Rat) : (srt l).Pairwise (· <= ·) := by
  have := List.pairwise_mergeSort (le := fun (a b : Rat) => decide (a <= b)) (fun a b c h1 h2 => by simp only [decide_eq_true_eq] at *; exact Rat.le_trans h1 h2) (fun a b => by simp only [Bool.or_eq_true, decide_eq_true_eq]; exact Rat.le_total) l
  exact this.imp fun h => by simpa using h
theorem srt_uniq {s l : List Rat} (hp : s.Perm l) (hs : s.Pairwise (· <= ·)) : s = srt l :=
  List.Perm.eq_of_pairwise (le := fun a b => a <= b) (fun _ _ _ _ h1 h2 => Rat.le_antisymm h1 h2) hs (srt_pw l) (hp.trans (srt_perm l).symm)
def rkA (k t : Int) (n : Nat) : Nat := if k = 1 then 0 else if k = 2 then (n + 1) / 2 - 1 else if k = 3 then n / 2 else if k = 4 then (n + 1) / 2 - 1 else t.toNat
def rkB (k t : Int) (n : Nat) : Nat := if k = 1 then n else if k = 2 then (n + 1) / 2 else if k = 3 then n / 2 + 1 else if k = 4 then n / 2 + 1 else n - t.toNat
def knownL (k t : Int) : Prop := 1 <= k /\ k <= 5 /\ 0 <= t /\ (k = 5 \/ t = 0)
def fitsL (k t : Int) (n : Nat) : Prop := 1 <= n /\ (k ≠ 5 \/ t <= ((n - 1) / 2 : Nat))
theorem rk_ok {k t : Int} {n : Nat} (h : knownL k t) (hf : fitsL k t n) : rkA k t n < rkB k t n /\ rkB k t n <= n := by
  obtain ⟨h1, h2, h3, h4⟩ := h
  obtain ⟨f1, f2⟩ := hf
  unfold rkA rkB
  repeat' split
  all_goals omega
end Go.Lin
