/- matrix: reduce. Conditions: few rows and columns, numbers of at most 2^36 digits. copy into a row that a call has made itself. Conditions: none. The determinants and ranks that the program computes. Conditions: at most four rows for determinants. Rows turned as law 06 turns them. Conditions: none. matrix: dot. Conditions: few numbers of at most 2^36 digits. matrix: Apply, Mul. Conditions: few rows and columns, numbers of few digits. -/
import Derived.Test.YtjbhcniiioepgaaGreatSoR
namespace Go.Lin
/-- Bounds that the second phase wants. -/
theorem elim_bounds2 {n c B t i col : Nat} {m : Mat} (hs : Shp n c m) (h : HB B m) (ht : t < n) (hi : i < n) (hit : i ≠ t) (hB : 7 * B ≤ 68719476736) :
    Go.Rep.BR 68719476736 ((divL m t col).getD i []) ∧ Go.Rep.BR 68719476736 ((divL m t col).getD t []) ∧ Go.Lim.hq (((divL m t col).getD i []).getD col 0 / ((divL m t col).getD t []).getD col 0) ≤ 68719476736 ∧ ∀ x ∈ (divL m t col).getD t [], Go.Lim.hq (((divL m t col).getD i []).getD col 0 / ((divL m t col).getD t []).getD col 0 * x) ≤ 68719476736 := by
  have h2 := h.divL hs ht col
  have hrow : ∀ k, Go.Rep.BR (2 * B) ((divL m t col).getD k []) := fun k q hq => by
    obtain ⟨j, hj, rfl⟩ := List.getElem_of_mem hq
    have e : ((divL m t col).getD k []).getD j 0 = ((divL m t col).getD k [])[j] := by rw [List.getD_eq_getElem?_getD, List.getElem?_eq_getElem hj]; rfl
    rw [← e]; exact h2 k j
  have h1 : Go.Lim.hq (((divL m t col).getD i []).getD col 0) ≤ B := by
    have := ent_divL hs ht col i col
    rw [if_neg hit] at this
    unfold ent at this
    rw [this]; exact h i col
  have h3 : Go.Lim.hq (((divL m t col).getD t []).getD col 0) ≤ 2 * B := h2 t col
  have h4 := Go.Lim.hq_div (((divL m t col).getD i []).getD col 0) (((divL m t col).getD t []).getD col 0)
  refine ⟨fun q hq => Nat.le_trans (hrow i q hq) (by omega), fun q hq => Nat.le_trans (hrow t q hq) (by omega), by omega, fun x hx => ?_⟩
  have h5 := hrow t x hx
  have h6 := Go.Lim.hq_mul (((divL m t col).getD i []).getD col 0 / ((divL m t col).getD t []).getD col 0) x
  omega
end Go.Lin
namespace Go.Rep
theorem run_slice_to {P : Program} {t e sz by_ : Nat} {z : Value} {ao : Option Addr} (T : SliceT P t e sz by_ z) (len cap : Nat) (k1 : IntKind) (i : Nat) (h1 : i ≤ cap) (w : World) :
    (Instr.sliceAt t (.slice ao len cap) none (some (.int k1 (i : Int))) none).run P w = .ok (.slice ao i cap) w := by
  obtain ⟨ti, hi, hz, hsz, hby⟩ := info_parts T.info
  have h1' : (i : Int) ≤ cap := by omega
  cases ao <;> simp [Instr.sliceAt, Instr.slice, run_underlying T.und, Instr.sliceBounds, run_sliceBound, h1', sizeOf, typeInfo, hi, hsz, Addr.add_zero']
end Go.Rep
namespace Go.Proofs.YtjbhcniiioepgaaGreat
open Go.RowKit Go.Rep Go.Lim Go.Lin

/-- What reduce leaves: the pivots, and the rows turned. -/
def RdOut (X : Nat → Bool) (base : Nat) (w : World) (ao : Option Addr) (cap : Nat) (hs : List Hdr) (s : Mat × List Nat) (e : Ending) (w' : World) : Prop :=
  ExtX (mb ao hs) w w' ∧ ∃ po pc hs', e = .returned (.slice po s.2.length pc) ∧ mb ao hs' = mb ao hs ∧ MO (un X po) base 33 31 w' ao cap hs' s.1 ∧ OL (NatIn .i64) 1 (mz X ao hs) w.heap.size 3 w' po pc s.2

set_option maxRecDepth 100000 in
set_option maxHeartbeats 1600000 in
theorem mreduce_any (X : Nat → Bool) (base : Nat) (w : World) (ao : Option Addr) (cap n c : Nat) (hs : List Hdr) (m : List (List Rat)) (hX : HX X w) (hM : MO X base 33 31 w ao cap hs m) (hsh : Shp n c m) (hc : colsL m = c) (hn : n ≤ 900) (hcc : c ≤ 900) (hT : Tame m c) :
    Calls Tryz.prog 85 #[.slice ao n cap] w (RdOut X base w ao cap hs (redP m c)) := by
  have hech := echelon_any X base w ao cap n c hs m hX hM hsh hc hn hcc hT.e
  obtain ⟨B, hB7, _, hBt⟩ := hT
  have hok := eN_ok hsh c
  have hcap : n ≤ cap := by have := hM.capLen; rw [hsh.1] at this; exact this
  have hhO : Hd ao n := by have := hM.outer.hd; rw [hM.len, hsh.1] at this; exact this
  have hred : redP m c = (dN (eN m c).1 (eN m c).2.1 (eN m c).2.1.length, (eN m c).2.1) := rfl
  obtain ⟨⟨E, p, od⟩, hS⟩ : ∃ S, eN m c = S := ⟨_, rfl⟩
  rw [hS] at hech hok hBt hred
  rw [hred]
  dsimp only at hBt ⊢
  obtain ⟨pl, hpl⟩ : ∃ pl, p.length = pl := ⟨_, rfl⟩
  have hEs : Shp n c E := hok.shp
  have hEe : Ech n c (ent E) p := hok.ech
  have hpn : pl ≤ n := by have := hEe.le; omega
  have hDok := hid (dN_ok hEs hEe)
  have hDB : Hid (∀ t, t ≤ p.length → HB B (dN E p t)) := hid hBt
  have hDb := hid hB7
  have hplt : Hid (∀ i (hi : i < p.length), p[i] < c) := hid hEe.lt
  have hpl' := hid hpl
  have hn0 : Hid (HX X w) := hid hX
  clear hsh hBt hB7 hred hS hok hEe hc
  go_enter Tryz.func85, Tryz.ntmps85
  go_wp2_with fail
  refine hech.mono ?_
  rintro e w1 ⟨hE1, po, pc, hs', rfl, hmb, hM1, hP1⟩
  dsimp only at hM1 hP1 ⊢
  rw [hpl]
  have hmb' := hid hmb
  have hlen := hid (hM1.len.trans hEs.1)
  have hdP : Hd po pl := by have := hP1.hd; rw [hpl] at this; exact this
  clear hech hmb hpl hM
  go_wp2_with fail
  go_loopw [19] (fun k wr => ∃ (i : Nat), k = .int .i64 i ∧ i ≤ pl ∧ MO (un X po) base 33 31 wr ao cap hs' (dN E p i) ∧ OL (NatIn .i64) 1 (mz X ao hs) w.heap.size 3 wr po pc p ∧ ExtX (mb ao hs) w wr) (fun k _ => pl - (intOf k).toNat)
  case atStart => exact ⟨0, rfl, Nat.zero_le _, hM1, hP1, hE1⟩
  case round =>
    obtain ⟨i, rfl, hi, hM, hP, hE⟩ := hrel
    by_cases hlt : i < pl
    · have hip : i < p.length := by rw [hpl'.out]; exact hlt
      have hin : i < n := by omega
      have hcl := hplt.out i hip
      have hPs := (hP.sl (NatIn.elem _)).nat i hip
      have hD := hDok.out i (by rw [hpl'.out]; omega)
      have hDBi := hDB.out i (by rw [hpl'.out]; omega)
      have hDbi := hDb.out
      have hgd : Hid (p.getD i 0 = p[i]) := hid (by simp [List.getD_eq_getElem?_getD, hip])
      have hdn : Hid (dN E p (i + 1) = dStep (dN E p i) i p[i]) := hid (by rw [← hgd.out]; rfl)
      obtain ⟨D, hDe⟩ : ∃ D, dN E p i = D := ⟨_, rfl⟩
      obtain ⟨col, hcole⟩ : ∃ col, p[i] = col := ⟨_, rfl⟩
      rw [hDe] at hM hD hDBi hdn
      rw [hcole] at hPs hcl hdn
      have hDs : Shp n c D := hD.shp
      have hDl := hid hDs.1
      have hih : i < hs'.length := by rw [hlen.out]; exact hin
      have hiD : i < D.length := by rw [hDl.out]; exact hin
      obtain ⟨a, na, cr, hhd⟩ : ∃ a na cr, hs'[i] = (a, na, cr) := ⟨_, _, _, rfl⟩
      obtain ⟨row, hrow⟩ : ∃ row, D[i] = row := ⟨_, rfl⟩
      have hrl : Hid (row.length = c) := hid (by rw [← hrow]; exact hDs.2 _ (List.getElem_mem _))
      have hna : na = c := by
        have := hM.rlen i hih hiD
        rw [hhd, hrow, hrl.out] at this; exact this
      subst hna
      have hR := hM.row i hih hiD
      rw [hrow] at hR
      simp only [hhd] at hR
      have hz1 := fun k (hk : ob a k = true) => hM.mz_sub hih k (by rw [hhd]; exact hk)
      have hsp := fun k (hk : ob a k = true) => hM.sep i hih k (by rw [hhd]; exact hk)
      have hda : Hd a na := by have := hR.hd; rw [hrl.out] at this; exact this
      have hun : Hid (un (cut (mz (un X po) ao hs') a) a = mz (un X po) ao hs') := hid (un_cut hz1)
      have haob : Hid (ob a (adr ao i).block = false) := hid (by
        cases hb : ob a (adr ao i).block
        · rfl
        · have h1 := (hsp _ hb).2
          obtain ⟨b0, o0, rfl⟩ := hhO (by omega)
          simp [ob, adr] at h1)
      have y1 : wr.cell? (adr ao i) = some (.slice a na cr) := by
        have := (hM.hdr i hih).1
        rw [hhd] at this; exact this
      have hcr : col < row.length := by rw [hrl.out]; exact hcl
      have hby : Hid (row[col] = ent D i col) := hid (by
        unfold ent; rw [getD_row hiD]; simp [hrow, List.getD_eq_getElem?_getD, hcr])
      obtain ⟨by_, hbye⟩ : ∃ b, ent D i col = b := ⟨_, rfl⟩
      have hbq : Hid (hq by_ ≤ 68719476736) := hid (by rw [← hbye]; exact Nat.le_trans (hDBi i col) (by omega))
      have hBrow : Hid (BR 68719476736 row) := hid fun q hq => by
        obtain ⟨x, hx, rfl⟩ := List.getElem_of_mem hq
        have := hDBi.bm D[i] (List.getElem_mem _) row[x] (by rw [hrow]; exact List.getElem_mem _)
        omega
      have hdiv : Hid (D.set i (row.map (· / by_)) = divL D i col) := hid (by
        unfold divL; rw [getD_row hiD, hrow, hbye])
      rw [hbye] at hby
      have bx := Bx.new wr #[.bool false, .slice none 0 0, .slice none 0 0] 31
      have hhd' := hid hhd
      have hrow' := hid hrow
      clear hhd hrow hDe hcole hbye
      go_wp2_with (first | (with_reducible refine up_ix1 slInt (by omega) (by assumption) ?_) | (with_reducible refine up_ix1 slRats (by omega) (by assumption) ?_) | (with_reducible refine up_ixn slRat (by omega) (by assumption) ?_) | ((with_reducible show wpList _ _ _ (⟨_, .load 31 _, _, _, _, _⟩ :: _) _ _); refine st_loadOL stRat col hR hcr rfl (by simp) QC.agg ?_; intro u5 hu5; rw [hby.out, hun.out] at hu5; obtain ⟨s5, a5, n5, c5, d5, k5, e5, rfl⟩ := hu5.shape) | ((with_reducible show wpList _ _ _ (⟨_, .store _ _ _, _, _, _, _⟩ :: _) _ _); refine st_storeBox stRat rfl rfl bx rfl rfl (one3 _ _ _ _ _ _ _) ?_; intro w5 r1 r2; have y2 := (ExtX.box ((ExtX.refl wr).alloc _) r2 (Nat.le_refl _) : Ext wr w5).cell y1))
      have hE5 : Ext wr w5 := ExtX.box ((ExtX.refl wr).alloc _) r2 (Nat.le_refl _)
      have hM5 := hM.ext0 hE5
      have hP5 := hP.ext0 (NatIn.elem _) hE5
      have hq5 : QV (mk (mz (un X po) ao hs') w5) (.agg #[.bool s5, .slice a5 n5 c5, .slice d5 k5 e5]) by_ := (mkx QC.mono hu5 hE5).qv hbq.out
      have hE15 := hE.trans (ExtX.of (Y := mb ao hs) hE5)
      obtain ⟨bb, hbb⟩ : ∃ bb, wr.heap.size = bb := ⟨_, rfl⟩
      rw [hbb] at r1 ⊢
      have hmbb : Hid (mb ao hs bb = false) := hid (by
        rw [← hmb'.out]
        cases hb : mb ao hs' bb
        · rfl
        · have := (hM.mb_block hb).2; omega)
      obtain ⟨R, hRe⟩ : ∃ R, row.map (· / by_) = R := ⟨_, rfl⟩
      have hRl : Hid (R.length = na) := hid (by rw [← hRe, List.length_map]; exact hrl.out)
      have hRr : Hid (R.length = row.length) := hid (by rw [hRl.out, hrl.out])
      have hRj : Hid (∀ j (h1 : j < row.length) (h2 : j < R.length), R[j] = row[j] / by_) := hid fun j h1 h2 => by subst hRe; simp
      rw [hRe] at hdiv
      have hM5' : MO (un X po) base 33 31 w5 ao cap hs' (D.set i (mix R row 0)) := by
        rw [mix_zero, ← hrow'.out, List.set_getElem_self]; exact hM5
      clear hR hRe bx y1 y2 hM5 hu5 hM hP
      go_loopw [36] (fun k wx => ∃ (j : Nat), k = .int .i64 j ∧ j ≤ na ∧ MO (un X po) base 33 31 wx ao cap hs' (D.set i (mix R row j)) ∧ OL (NatIn .i64) 1 (mz X ao hs) w.heap.size 3 wx po pc p ∧ Bx wx bb #[.bool s5, .slice a5 n5 c5, .slice d5 k5 e5] 31 ∧ QV (mk (mz (un X po) ao hs') wx) (.agg #[.bool s5, .slice a5 n5 c5, .slice d5 k5 e5]) by_ ∧ ExtX (mb ao hs) w wx) (fun k _ => na - (intOf k).toNat)
      case atStart => exact ⟨0, rfl, Nat.zero_le _, hM5', hP5, r1, hq5, hE15⟩
      case round =>
        obtain ⟨j, rfl, hj, hM, hP, hB7, hq7, hE⟩ := hrel
        by_cases hlj : j < na
        · have hjr : j < row.length := by rw [hrl.out]; exact hlj
          have hjR : j < R.length := by rw [hRl.out]; exact hlj
          have hml : Hid ((mix R row j).length = na) := hid (by rw [mix_len hRr.out, hRl.out])
          have hjm : j < (mix R row j).length := by rw [hml.out]; exact hlj
          have hmg : Hid ((mix R row j)[j] = row[j]) := hid (by rw [mix_getElem hRr.out, if_neg (by omega)])
          have hjs : Hid ((mix R row j).set j R[j] = mix R row (j + 1)) := hid (mix_set hRr.out hjR)
          have hRjj := hid (hRj.out j hjr hjR)
          have hbr := hid (hBrow.out row[j] (List.getElem_mem _))
          have hset9 : Hid (i < (D.set i (mix R row j)).length) := hid (by rw [List.length_set]; exact hiD)
          have hR := hM.row i hih hset9.out
          rw [List.getElem_set_self] at hR
          simp only [hhd'.out] at hR
          obtain ⟨x, hx⟩ : ∃ x, row[j] = x := ⟨_, rfl⟩
          obtain ⟨v, hv⟩ : ∃ v, R[j] = v := ⟨_, rfl⟩
          rw [hx] at hmg hbr hRjj
          rw [hv] at hjs hRjj
          have hXr : HX X wr := hn0.out.ext hE
          have hXu : HX (un X po) wr := fun k hk => by
            by_cases hx : X k = true
            · exact hXr k hx
            · exact (hP.block (by simpa [un, hx] using hk)).2
          have hXz := hM.hz hXu
          obtain ⟨g, o, hg⟩ : ∃ g o, adr a (j * 3) = ⟨g, o, none⟩ := ⟨_, _, rfl⟩
          have i1 : ∀ W, (Instr.indexAt 23 (.slice ao n cap) (.int .i64 (i : Int))).run Tryz.prog W = .ok (.pointer (some (adr ao i))) W := run_ix1 slRats ao n cap .i64 i hhO (by omega) rfl
          have bx := Bx.new wr #[.bool false, .slice none 0 0, .slice none 0 0] 31
          have y1 : wr.cell? (adr ao i) = some (.slice a na cr) := by
            have := (hM.hdr i hih).1
            rw [hhd'.out] at this; exact this
          have hsp2 := hid hsp
          replace hg := hid hg
          clear hx hv hsp
          go_wp2_with (first | (with_reducible refine up_ixn slRat (by omega) (by assumption) ?_) | ((with_reducible show wpList _ _ _ (⟨_, .load 31 _, _, _, _, _⟩ :: _) _ _); refine st_loadOL stRat j hR hjm rfl (by simp) QC.agg ?_; intro u6 hu6; rw [hmg.out, hun.out] at hu6; obtain ⟨s6, a6, n6, c6, d6, k6, e6, rfl⟩ := hu6.shape) | ((with_reducible show wpList _ _ _ (⟨_, .store _ _ _, _, _, _, _⟩ :: _) _ _); refine st_storeBox stRat rfl rfl bx rfl rfl (one3 _ _ _ _ _ _ _) ?_; intro w6 r3 r4))
          have i2 : ∀ W, (Instr.indexAt 33 (.slice a na cr) (.int .i64 (j : Int))).run Tryz.prog W = .ok (.pointer (some ⟨g, o, none⟩)) W := by rw [← hg.out]; exact run_indexAt_adr slRat a na cr .i64 j hda (by omega)
          have hE6 : Ext wr w6 := ExtX.box ((ExtX.refl wr).alloc _) r4 (Nat.le_refl _)
          have hEd : Ext w6 w6.drew := (ExtX.refl w6).drew
          have hE6d := hE6.trans hEd
          have hM6 := hM.ext0 hE6d
          have hP6 := hP.ext0 (NatIn.elem _) hE6d
          have hR6 := hR.ext0 QC.elem hE6d
          have hB6 := hB7.ext0 hE6d
          have hx6 : QV (mk (mz (un X po) ao hs') w6.drew) (.agg #[.bool s6, .slice a6 n6 c6, .slice d6 k6 e6]) x := (mkx QC.mono hu6 hE6d).qv hbr.out
          have hb6 : QV (mk (mz (un X po) ao hs') w6.drew) (.agg #[.bool s5, .slice a5 n5 c5, .slice d5 k5 e5]) by_ := mkx QV.mono hq7 hE6d
          have hXd := hXz.ext hE6d
          have r3d := r3.ext0 hEd
          obtain ⟨bw, hbw⟩ : ∃ bw, wr.heap.size = bw := ⟨_, rfl⟩
          rw [hbw] at r3d
          have hab : Hid (ob a bw = false) := hid (by rw [← hbw]; exact hR.ob_ge (Nat.le_refl _))
          have habb : Hid (ob a bb = false) := hid (by
            cases hb : ob a bb
            · rfl
            · have h5 : mb ao hs' bb = true := mb_iff.2 (.inr (obs_get hih (show ob hs'[i].1 bb = true by rw [hhd'.out]; exact hb)))
              rw [hmb'.out, hmbb.out] at h5; simp at h5)
          have hS : Hid (∀ Y W', ExtX Y w6.drew W' → Y (adr ao i).block = false → Y bw = false → Y bb = false → W'.cell? (adr ao i) = some (.slice a na cr) ∧ W'.cell? ⟨bw, 0, none⟩ = some (.bool s6) ∧ W'.cell? ⟨bw, 1, none⟩ = some (.slice a6 n6 c6) ∧ W'.cell? ⟨bw, 2, none⟩ = some (.slice d6 k6 e6) ∧ W'.cell? ⟨bb, 0, none⟩ = some (.bool s5) ∧ W'.cell? ⟨bb, 1, none⟩ = some (.slice a5 n5 c5) ∧ W'.cell? ⟨bb, 2, none⟩ = some (.slice d5 k5 e5)) := hid fun Y W' h hy1 hy2 hy3 => by
            have z2 := r3d.ext h hy2
            have z3 := hB6.ext h hy3
            exact ⟨h.cellY (hE6d.cell y1) hy1, z2.cell 0 rfl, z2.cell 1 rfl, z2.cell 2 rfl, z3.cell 0 rfl, z3.cell 1 rfl, z3.cell 2 rfl⟩
          obtain ⟨k00, k10, k11, k12, k20, k21, k22⟩ := hS.out noY w6.drew (ExtX.refl _) rfl rfl rfl
          have qd := qdiv (mz (un X po) ao hs') w6.drew _ _ _ _ hXd hx6 hb6
          rw [← hRjj.out] at qd
          have qd2 : Calls Tryz.prog 135 #[.agg #[.bool s6, .slice a6 n6 c6, .slice d6 k6 e6], .agg #[.bool s5, .slice a5 n5 c5, .slice d5 k5 e5]] w6.drew (fun e w' => Ext w6.drew w' ∧ ∃ u ec, e = .returned (.tuple #[u, .int .i64 ec]) ∧ QC (mk (mz (un X po) ao hs') w') u v) := qd.mono fun e w' ⟨q1, u, q2, q3⟩ => ⟨q1, u, _, q2, q3⟩
          clear qd r3 bx y1
          rw [hbw]
          go_wp2_with fail
          go_region_held3 (fun w' => w'.cell? (adr ao i) = some (.slice a na cr) ∧ w'.cell? ⟨bw, 0, none⟩ = some (.bool s6) ∧ w'.cell? ⟨bw, 1, none⟩ = some (.slice a6 n6 c6) ∧ w'.cell? ⟨bw, 2, none⟩ = some (.slice d6 k6 e6) ∧ w'.cell? ⟨bb, 0, none⟩ = some (.bool s5) ∧ w'.cell? ⟨bb, 1, none⟩ = some (.slice a5 n5 c5) ∧ w'.cell? ⟨bb, 2, none⟩ = some (.slice d5 k5 e5))
            (first | exact hS.out noY _ t1 rfl rfl rfl | exact hS.out (ob a) _ ((ExtX.of t1).trans hset.2) haob.out hab.out habb.out | go_keep)
            ((go_at_call 135; (with_reducible refine qd2.mono ?_); rintro ee w7 ⟨t1, u7, ec7, rfl, hu7⟩; obtain ⟨s7, a7, n7, c7, d7, k7, e7, rfl⟩ := hu7.shape; have hO7 := hR6.ext0 QC.elem t1; obtain ⟨_, v0, v1, v2, _, ⟨g0, f0⟩, ⟨g1, f1⟩, ⟨g2, f2⟩, _⟩ := hO7.cell3 j hjm hg.out; have hset := hO7.set3 tyRat QC.elem j hjm hg.out (v0 := .bool s7) (v1 := .slice a7 n7 c7) (v2 := .slice d7 k7 e7) (x := v) (by rw [hun.out]; exact hu7)))
          obtain ⟨q1, q2⟩ := hset
          rw [hjs.out] at q1
          obtain ⟨w8, hw8⟩ : ∃ w8, ((w7.setCell ⟨g, o, none⟩ (.bool s7)).setCell ⟨g, o + 1, none⟩ (.slice a7 n7 c7)).setCell ⟨g, o + 2, none⟩ (.slice d7 k7 e7) = w8 := ⟨_, rfl⟩
          rw [hw8] at q1 q2 ⊢
          have q2' : ExtX (ob hs'[i].1) w7 w8 := by rw [hhd'.out]; exact q2
          have hM7 := (hM6.ext0 t1).upd hih (l := mix R row (j + 1)) q2' (fun hi' => by rw [List.getElem_set_self, mix_len hRr.out, mix_len hRr.out]) (by rw [hhd'.out]; exact q1)
          rw [List.set_set] at hM7
          have hP8 := (hP6.ext0 (NatIn.elem _) t1).frame (NatIn.pure _) q2 (fun k hk => by
            cases hb : ob a k
            · rfl
            · have := (hsp2.out k hb).1; rw [un_right hk] at this; simp at this) hP.1
          have hB8 := (hB6.ext0 t1).ext q2 habb.out
          have hq8 := QV.mono _ _ _ _ (mk_mono q2 hz1) (mkx QV.mono hb6 t1)
          have hE8 := (hE.trans (ExtX.of (hE6d.trans t1))).trans (show ExtX (mb ao hs) w7 w8 by rw [← hmb'.out]; exact ExtX.row hih q2')
          clear k00 k10 k11 k12 k20 k21 k22 g0 g1 g2 f0 f1 f2 i1 i2 hw8
          go_wp2_with fail
          go_roundw
          case rel => exact ⟨j + 1, by go_num, by omega, hM7, hP8, hB8, hq8, hE8⟩
          case measure => simp [intOf]; omega
        · have hjn : j = na := by omega
          subst hjn
          rw [mix_full (by rw [hRl.out]; exact Nat.le_refl _) (by rw [hrl.out]; exact Nat.le_refl _), hdiv.out] at hM
          obtain ⟨D2, hD2⟩ : ∃ D2, divL D i col = D2 := ⟨_, rfl⟩
          have hsh2 : Shp n j D2 := by rw [← hD2]; exact hDs.divL hin col
          have hbnd : Hid (∀ t, t < i → BR 68719476736 (D2.getD t []) ∧ BR 68719476736 (D2.getD i []) ∧ hq ((D2.getD t []).getD col 0 / (D2.getD i []).getD col 0) ≤ 68719476736 ∧ ∀ x ∈ D2.getD i [], hq ((D2.getD t []).getD col 0 / (D2.getD i []).getD col 0 * x) ≤ 68719476736) := hid fun t ht => by
            rw [← hD2]; exact elim_bounds2 hDs hDBi hin (by omega) (by omega) hDbi
          have hdn2 : Hid (above D2 i col i = dN E p (i + 1)) := hid (by rw [hdn.out]; unfold dStep; rw [hD2])
          rw [hD2] at hM
          have hD2l := hid hsh2.1
          have hM' : MO (un X po) base 33 31 wr ao cap hs' (above D2 i col 0) := by rw [above_zero]; exact hM
          have hicap : i ≤ cap := by omega
          have f1 : ∀ W, (Instr.sliceAt 23 (.slice ao n cap) none (some (.int .i64 (i : Int))) none).run Tryz.prog W = .ok (.slice ao i cap) W := run_slice_to slRats n cap .i64 i hicap
          have hhOi : Hd ao i := fun h0 => hhO (by omega)
          clear hM hD2 hB7 hq7
          go_wp2_with fail
          go_loopw [58] (fun k wx => ∃ (s : Nat), k = .int .i64 s ∧ s ≤ i ∧ MO (un X po) base 33 31 wx ao cap hs' (above D2 i col s) ∧ OL (NatIn .i64) 1 (mz X ao hs) w.heap.size 3 wx po pc p ∧ ExtX (mb ao hs) w wx) (fun k _ => i - (intOf k).toNat)
          case atStart => exact ⟨0, rfl, Nat.zero_le _, hM', hP, hE⟩
          case round =>
            obtain ⟨s, rfl, hs9, hM8, hP8, hE8⟩ := hrel
            by_cases hls : s < i
            · have htn : s < n := by omega
              have hth : s < hs'.length := by rw [hlen.out]; exact htn
              have htm : s < D2.length := by rw [hD2l.out]; exact htn
              have hpm : i < D2.length := by rw [hD2l.out]; exact hin
              have htc : s < (above D2 i col s).length := by rw [above_len]; exact htm
              have hpc : i < (above D2 i col s).length := by rw [above_len]; exact hpm
              obtain ⟨a1, n1, c1, hh1⟩ : ∃ a n c, hs'[s] = (a, n, c) := ⟨_, _, _, rfl⟩
              have hg1 : (above D2 i col s)[s] = D2[s] := by rw [above_get htc htm, if_neg (by omega)]
              have hg2 : (above D2 i col s)[i] = D2[i] := by rw [above_get hpc hpm, if_neg (by omega)]
              have hn1' : n1 = j := by
                have := hM8.rlen s hth htc
                rw [hh1, hg1, hsh2.2 _ (List.getElem_mem _)] at this; exact this
              subst hn1'
              have hR1 := hM8.row s hth htc
              have hR2 := hM8.row i hih hpc
              rw [hg1] at hR1
              rw [hg2] at hR2
              simp only [hh1] at hR1
              simp only [hhd'.out] at hR2
              have hzz1 := fun k (hk : ob a1 k = true) => hM8.mz_sub hth k (by rw [hh1]; exact hk)
              have hzz2 := fun k (hk : ob a k = true) => hM8.mz_sub hih k (by rw [hhd'.out]; exact hk)
              have hds : ∀ k, ob a1 k = true → ob a k = false := fun k hk => by
                have := hM8.dis s i hth hih (by omega) k (by rw [hh1]; exact hk)
                rw [hhd'.out] at this; exact this
              have hsp1 := fun k (hk : ob a1 k = true) => hM8.sep s hth k (by rw [hh1]; exact hk)
              have hBn := hbnd.out s hls
              rw [getD_row htm] at hBn
              have hcs : Hid ((above D2 i col s).set s (elimL D2[s] (D2.getD i []) col) = above D2 i col (s + 1)) := hid (above_set htm hls)
              have hpe : D2.getD i [] = D2[i] := getD_row hpm
              rw [← hpe] at hR2
              have hrl1 := hid (hsh2.2 D2[s] (List.getElem_mem _))
              have hrl2 := hid (show (D2.getD i []).length = n1 by rw [hpe]; exact hsh2.2 _ (List.getElem_mem _))
              obtain ⟨rw1, hrow1⟩ : ∃ rw1, D2[s] = rw1 := ⟨_, rfl⟩
              obtain ⟨piv, hpiv⟩ : ∃ piv, D2.getD i [] = piv := ⟨_, rfl⟩
              rw [hrow1, hpiv] at hcs
              rw [hrow1] at hR1 hrl1
              rw [hpiv] at hR2 hrl2
              rw [hrow1, hpiv] at hBn
              have hX8 : HX (un X po) wr := fun k hk => by
                by_cases hx : X k = true
                · exact hn0.out.ext hE8 k hx
                · exact (hP8.block (by simpa [un, hx] using hk)).2
              have hZ8 := hM8.hz hX8
              have hel := eliminate_any (mz (un X po) ao hs') base wr a1 a c1 cr n1 col rw1 piv hZ8 hR1 hR2 hzz1 hzz2 hds hrl1.out hrl2.out (by omega) hcl hBn.1 hBn.2.1 hBn.2.2.1 hBn.2.2.2
              have y1 : wr.cell? (adr ao s) = some (.slice a1 n1 c1) := by
                have := (hM8.hdr s hth).1
                rw [hh1] at this; exact this
              have y2 : wr.cell? (adr ao i) = some (.slice a n1 cr) := by
                have := (hM8.hdr i hih).1
                rw [hhd'.out] at this; exact this
              have hh1' := hid hh1
              clear hg1 hg2 hpe hrow1 hpiv hh1 hR1 hR2 hBn f1
              go_wp2_with (with_reducible refine up_ix1 slRats (by omega) (by assumption) ?_)
              refine hel.mono ?_
              rintro ee w7 ⟨rfl, t1, hO7⟩
              have hEr : ExtX (ob hs'[s].1) wr w7 := by rw [hh1'.out]; exact t1
              have hM9 := hM8.upd hth (l := elimL rw1 piv col) hEr (fun hi' => by
                rw [above_get htc htm, if_neg (by omega), elimL_len _ _ _ (by rw [hrl1.out, hrl2.out]), hrl2.out]
                exact (hsh2.2 _ (List.getElem_mem _)).symm) (by rw [hh1'.out]; exact hO7)
              rw [hcs.out] at hM9
              have hP9 := hP8.frame (NatIn.pure _) t1 (fun k hk => by
                cases hb : ob a1 k
                · rfl
                · have := (hsp1 k hb).1; rw [un_right hk] at this; simp at this) hP8.1
              have hE9 := hE8.trans (show ExtX (mb ao hs) wr w7 by rw [← hmb'.out]; exact ExtX.row hth hEr)
              clear y1 y2
              go_wp2_with fail
              go_roundw
              case rel => exact ⟨s + 1, by go_num, by omega, hM9, hP9, hE9⟩
              case measure => simp [intOf]; omega
            · have hsi : s = i := by omega
              subst hsi
              rw [hdn2.out] at hM8
              go_wp2_with fail
              go_roundw
              case rel => exact ⟨s + 1, by go_num, by omega, hM8, hP8, hE8⟩
              case measure => simp [intOf]; omega
    · have hil : i = pl := by omega
      subst hil
      rw [← hpl'.out] at hM
      go_wp2_with fail
      go_ret
      exact ⟨hE, po, pc, hs', by rw [hpl'.out]; rfl, hmb'.out, hM, hP⟩
end Go.Proofs.YtjbhcniiioepgaaGreat

namespace Go.Rep
open Go.RowKit Go.Lim
section
variable {P : Program} {ops : Array Oper} {Q : Exit → Act → World → Prop} {rest : List Oper} {a : Act} {w : World}
variable {α : Type} {R : Mem → Value → α → Prop} {sz : Nat} {X : Nat → Bool} {base : Nat} {e : TypeId} {ao : Option Addr} {cap : Nat} {l : List α}
variable {d : Option Tmp} {ty : TypeId} {ps : String} {af : Array Edge}
theorem OL.run_copy {t by_ : Nat} {z : Value} (T : SliceT P t e sz by_ z) (hR : Elem R sz) (h : OL R sz X base e w ao cap l) (sa : Option Addr) (ca : Nat) (us' : List Value) (xs : List α) (hat : At w sa us') (hlen : us'.length = xs.length)
    (hxs : ∀ i (hi : i < us'.length) (hi' : i < xs.length), R (mk (un X ao) w) us'[i] xs[i]) (hk : xs.length ≤ l.length) (h0 : 0 < xs.length) (ty : TypeId) :
    ∃ w', (Builtin.copy_ #[t, t] ty #[.slice ao l.length cap, .slice sa xs.length ca]).run P w = .ok (goInt xs.length) w' ∧ OL R sz X base e w' ao cap (xs ++ l.drop xs.length) ∧ ExtX (ob ao) w w' := by
  obtain ⟨i, hi, hz, hsz, hby⟩ := info_parts T.info
  have hus' : ∀ u ∈ us', u.cells.size = sz := by
    intro v hv
    obtain ⟨i, hi, rfl⟩ := List.getElem_of_mem hv
    exact hR.size _ _ _ (hxs i hi (by omega))
  have hone' : ∀ u ∈ us', ∀ c ∈ cellsL u, c.oneCell' = true := by
    intro v hv
    obtain ⟨i, hi, rfl⟩ := List.getElem_of_mem hv
    exact hR.one _ _ _ (hxs i hi (by omega))
  have hone2 : ∀ v ∈ us'.flatMap cellsL, v.oneCell' = true := by
    intro c hc
    obtain ⟨v, hv, hcv⟩ := List.mem_flatMap.1 hc
    exact hone' v hv c hcv
  obtain ⟨sb, so, rfl⟩ := hat.1 (by omega)
  have hnews : ∀ j u, (us'.flatMap cellsL)[j]? = some u → w.cell? ((⟨sb, so, none⟩ : Addr).add j) = some u := by
    intro j u hj
    rw [← adr_addr rfl]; exact hat.2 j u hj
  have hnl : (us'.flatMap cellsL).length = xs.length * sz := by rw [flat_length us' hus', hlen]
  have hform := h.form
  obtain ⟨hx, us, h1, h2, h22, h3, h5⟩ := h
  rcases hform with ⟨rfl, rfl, rfl⟩ | ⟨g, cur, rfl, h6, h7, h8, h9, h10⟩
  · simp at hk; subst hk; simp at h0
  have hfit : 0 + (us'.flatMap cellsL).length ≤ cur.size := by
    rw [Nat.zero_add, hnl, h10]; exact Nat.mul_le_mul_right _ (by omega)
  have hld := run_loadCells_list (P := P) w ⟨sb, so, none⟩ (us'.flatMap cellsL) hnews
  have hst := run_storeCells_at P g 0 e (us'.flatMap cellsL) 0 cur w h7 (by simpa using hfit) hone2
  have hE : ExtX (ob (some ⟨g, 0, none⟩)) w (w.setRow g (cur.toList.take (0 + 0) ++ us'.flatMap cellsL ++ cur.toList.drop (0 + 0 + (us'.flatMap cellsL).length)).toArray) :=
    ⟨rfl, rfl, rfl, by simp, fun k _ hk => setRow_other w g k _ (fun ek => by subst ek; simp [ob] at hk)⟩
  have hmin : Nat.min xs.length l.length = xs.length := Nat.min_eq_left hk
  have hdl : ∀ u ∈ us' ++ us.drop xs.length, u.cells.size = sz := by
    intro u hu
    rcases List.mem_append.1 hu with hu | hu
    · exact hus' u hu
    · exact h2 u (List.mem_of_mem_drop hu)
  have hlen2 : (us' ++ us.drop xs.length).length = (xs ++ l.drop xs.length).length := by simp [hlen, h1]
  refine ⟨_, ?_, ⟨hx, us' ++ us.drop xs.length, hlen2, hdl, ?_, ⟨?_, .inr ⟨g, cap, _, by simp, h6, setRow_heap w g cur _ e _ h7, by simp; omega, h9, ?_, ?_⟩⟩, ?_⟩, hE⟩
  · have hld2 : (loadCells ⟨sb, so, none⟩ (xs.length * i.size)).run P w = .ok (us'.flatMap cellsL).toArray w := by rw [hsz, ← hnl]; exact hld
    simp [Builtin.copy_, run_underlying T.und, Builtin.lenOf, Builtin.firstCells, sizeOf, typeInfo, hi, hmin, hld2, hst]
  · intro u hu c hc
    rcases List.mem_append.1 hu with hu | hu
    · exact hone' u hu c hc
    · exact h22 u (List.mem_of_mem_drop hu) c hc
  · rw [flat_length _ hdl, hlen2]
  · simp only [List.size_toArray, List.length_append, List.length_take, List.length_drop, Array.length_toList, h10, Nat.add_zero, Nat.zero_add, hnl]
    have := Nat.mul_le_mul_right sz (show xs.length ≤ cap by omega)
    omega
  · rcases h3.2 with ⟨hv, _⟩ | ⟨g', c', cur', hv, _, h7', _, _, _, h11⟩
    · simp at hv
    simp at hv
    obtain ⟨rfl, rfl⟩ := hv
    rw [h7] at h7'
    obtain rfl : cur = cur' := by simpa using h7'
    have hfu : us.flatMap cellsL = (us.take xs.length).flatMap cellsL ++ (us.drop xs.length).flatMap cellsL := by
      rw [← List.flatMap_append, List.take_append_drop]
    have hft : ((us.take xs.length).flatMap cellsL).length = xs.length * sz := by
      rw [flat_length _ (fun u hu => h2 u (List.mem_of_mem_take hu))]; simp [h1, Nat.min_eq_left hk]
    have hdr : (us.drop xs.length).flatMap cellsL = (cur.toList.take (l.length * sz)).drop (xs.length * sz) := by
      rw [h11, hfu, ← hft, List.drop_left]
    rw [List.flatMap_append, hdr]
    simp only [Nat.zero_add, List.take_zero, List.nil_append, hnl, List.length_append, List.length_drop, Nat.add_sub_cancel' hk]
    rw [List.take_append, List.take_of_length_le (by rw [hnl]; exact Nat.mul_le_mul_right _ hk), hnl, List.drop_take]
  · intro j hj hj'
    have hle : Le (mk (un X (some ⟨g, 0, none⟩)) w) (mk (un X (some ⟨g, 0, none⟩)) _) := mkun_over hE (.inl rfl)
    by_cases hlt : j < us'.length
    · simpa [List.getElem_append_left hlt, List.getElem_append_left (show j < xs.length by omega)] using hR.mono _ _ _ _ hle (hxs j hlt (by omega))
    · have hj2 : xs.length + (j - xs.length) < us.length := by simp at hj; omega
      have := hR.mono _ _ _ _ hle (h5 (xs.length + (j - xs.length)) hj2 (by omega))
      have e1 : xs.length + (j - xs.length) = j := by omega
      simpa [List.getElem_append_right (show us'.length ≤ j by omega), List.getElem_append_right (show xs.length ≤ j by omega), hlen, e1] using this
/-- copy(row, x). -/
theorem st_copyTo {t by_ : Nat} {z : Value} {s x : Operand} {sa : Option Addr} {ca n k : Nat} (T : SliceT P t e sz by_ z) (hR : Elem R sz) (xs : List α) (hs : a.eval s = .slice ao n cap) (hn : l.length = n) (hx : a.eval x = .slice sa k ca) (hkx : xs.length = k) (h : OL R sz X base e w ao cap l)
    (hxs : Sl R sz (mk (un X ao) w) sa xs) (hk : k ≤ n) (h0 : 0 < k)
    (K : ∀ w', OL R sz X base e w' ao cap (xs ++ l.drop k) → ExtX (ob ao) w w' → wpList P ops Q rest (a.put d (.int .i64 (k : Int))) w') :
    wpList P ops Q (⟨d, .call { callee := .builtin .copy, args := #[s, x], argTypes := #[t, t] }, ty, ps, af, none⟩ :: rest) a w := by
  refine wpList_plain rfl fun K' hK' => ?_
  subst hn; subst hkx
  obtain ⟨us, h1, h2, h3⟩ := hxs.at_ hR
  obtain ⟨w', hr, h2, h3⟩ := h.run_copy (P := P) T hR sa ca us xs h2 h1 h3 hk h0 ty
  unfold Oper.wp execOp
  simp only [resolve, invoke, builtin, Sem.run_bind, Sem.run_pure, Result.andThen_ok, List.map_toArray, List.map_cons, List.map_nil, hs, hx, hr]
  exact hK' _ _ (K w' h2 h3)
theorem step_copyTo {o : Oper} {K : Act → World → Prop} {E : Prop} {t by_ : Nat} {z : Value} {s x : Operand} {sa : Option Addr} {ca n k : Nat} (hg : o.guard = none) (hop : o.op = Op.call { callee := Callee.builtin Builtin.copy, args := #[s, x], argTypes := #[t, t] }) (T : SliceT P t e sz by_ z) (hR : Elem R sz) (xs : List α) (hs : a.eval s = .slice ao n cap) (hn : l.length = n) (hx : a.eval x = .slice sa k ca) (hkx : xs.length = k) (h : OL R sz X base e w ao cap l)
    (hxs : Sl R sz (mk (un X ao) w) sa xs) (hk : k ≤ n) (h0 : 0 < k)
    (hK : ∀ w', OL R sz X base e w' ao cap (xs ++ l.drop k) → ExtX (ob ao) w w' → K (a.put o.dst (.int .i64 (k : Int))) w') :
    if Region.wanted o (yielded ops a.tmps) = true then Oper.wp P o a w K Q else E := by
  have hw : Region.wanted o (yielded ops a.tmps) = true := by simp [Region.wanted, hg]
  rw [if_pos hw]
  subst hn; subst hkx
  obtain ⟨us, h1, h2, h3⟩ := hxs.at_ hR
  obtain ⟨w', hr, h2, h3⟩ := h.run_copy (P := P) T hR sa ca us xs h2 h1 h3 hk h0 o.type
  unfold Oper.wp execOp
  rw [hop]
  simp only [resolve, invoke, builtin, Sem.run_bind, Sem.run_pure, Result.andThen_ok, List.map_toArray, List.map_cons, List.map_nil, hs, hx, hr]
  exact hK _ h2 h3
end
end Go.Rep

namespace Go.Lin
open Go.Lim
/-- What the program's Det computes. -/
noncomputable def detV (m : Mat) (n : Nat) : Rat := if (eN m n).2.2 then - pr n (fun i => ent (eN m n).1 i i) else pr n (fun i => ent (eN m n).1 i i)
theorem detV_det {n : Nat} {m : Mat} (hn : n ≤ 4) (hs : Shp n n m) : detV m n = det n (ent m) := by
  have hk := eN_ok hs n
  have h1 := hk.ech.det hn
  have h2 := hk.re.det_same hn
  unfold detV
  rw [← h1, h2]
  split <;> grind
theorem pr_hq {B : Nat} {f : Nat → Rat} (h : ∀ i, hq (f i) ≤ B) (n : Nat) : hq (pr n f) ≤ 1 + n * B := by
  induction n with
  | zero => show hq 1 ≤ _; have h3 : hq 1 = 1 := by decide +kernel
            omega
  | succ n ih =>
    have h1 := hq_mul (pr n f) (f n)
    have h2 := h n
    show hq (pr n f * f n) ≤ _
    rw [Nat.add_mul, Nat.one_mul]; omega
/-- What the program's Rank computes. -/
noncomputable def rankV (m : Mat) (c : Nat) : Nat := (eN m c).2.1.length
theorem rankV_red (m : Mat) (c : Nat) : rankV m c = (redP m c).2.length := rfl
theorem rank_full {n : Nat} {m : Mat} (hn : n ≤ 4) (hs : Shp n n m) : rankV m n = n ↔ detV m n ≠ 0 := by
  rw [detV_det hn hs, rankV_red]
  obtain ⟨h1, h2, d, h3⟩ := redP_ok hs (c := n)
  have h4 := h3.det_same hn
  have h5 := h2.det hn
  have h6 := h3.ne
  by_cases e : (redP m n).2.length = n
  · rw [if_pos e] at h5
    refine ⟨fun _ h => ?_, fun _ => e⟩
    rw [h5, h] at h4; grind
  · rw [if_neg e] at h5
    refine ⟨fun h => absurd h e, fun h => ?_⟩
    rw [h5] at h4
    rcases Rat.mul_eq_zero.1 h4.symm with h7 | h7
    · exact absurd h7 h6
    · exact absurd h7 h
theorem rank_trL {n c : Nat} {m : Mat} (hs : Shp n c m) : rankV (trL m n c) n = rankV m c := by
  obtain ⟨_, h2, d, h3⟩ := redP_ok hs (c := c)
  obtain ⟨_, k2, e, k3⟩ := redP_ok (trL_shp m n c)
  exact (rank_tr h2 h3 k2 (k3.congr fun i hi j hj => (ent_trL m n c i hi j hj).symm)).symm
theorem det_mulL {n : Nat} {a b : Mat} (hn : n ≤ 4) (ha : Shp n n a) (hb : Shp n n b) : detV (mulL a b n n) n = detV a n * detV b n := by
  rw [detV_det hn (mulL_shp ha.1), detV_det hn ha, detV_det hn hb, det_congr (ent_mulL ha)]
  obtain ⟨_, h2, d, h3⟩ := redP_ok ha (c := n)
  exact det_mul hn _ _ _ _ d h2 h3
theorem det_trL {n : Nat} {a : Mat} (hn : n ≤ 4) (ha : Shp n n a) : detV (trL a n n) n = detV a n := by
  rw [detV_det hn (trL_shp a n n), detV_det hn ha, det_congr (ent_trL a n n), det_tr hn]
end Go.Lin

namespace Go.Lin
open Go.Lim
theorem matL_shp (r c : Nat) (raw : List Int) : Shp r c (matL r c raw) := ⟨by simp [matL], fun x hx => by
  obtain ⟨i, _, rfl⟩ := List.mem_map.1 hx; simp⟩
theorem matL_bm (r c : Nat) (raw : List Int) : Go.Rep.BM 2 (matL r c raw) := fun x hx q hq => by
  obtain ⟨i, _, rfl⟩ := List.mem_map.1 hx
  obtain ⟨j, _, rfl⟩ := List.mem_map.1 hq
  exact numQ_hq _
/-- One row added to another, and both exchanged. -/
def addSwap (m : Mat) (i j : Nat) (f : Rat) : Mat := swapL (m.set i (List.zipWith (· + ·) (m.getD i []) ((m.getD j []).map (· * f)))) i j
theorem addSwap_ok {n c B : Nat} {m : Mat} {i j : Nat} {f : Rat} (hs : Shp n c m) (hi : i < n) (hj : j < n) (hij : i ≠ j) (hB : HB B m) (hf : hq f ≤ B) : Shp n c (addSwap m i j f) ∧ RE n c (ent m) (ent (addSwap m i j f)) (-1) ∧ HB (4 * B) (addSwap m i j f) := by
  have hri := hs.row hi
  have hrj := hs.row hj
  have hl : (List.zipWith (· + ·) (m.getD i []) ((m.getD j []).map (· * f))).length = c := by rw [List.length_zipWith, List.length_map, hri, hrj]; omega
  have hs1 := hs.set i hl
  have he : ∀ r q, ent (m.set i (List.zipWith (· + ·) (m.getD i []) ((m.getD j []).map (· * f)))) r q = if r = i then ent m i q + ent m j q * f else ent m r q := fun r q => by
    rw [ent_set (by rw [hs.1]; exact hi), zip_add _ _ (by rw [List.length_map, hri, hrj]), getD_map_mul]; rfl
  refine ⟨hs1.swap hi hj, ?_, ?_⟩
  · refine (RE.add (f := ent m) (g := ent (m.set i (List.zipWith (· + ·) (m.getD i []) ((m.getD j []).map (· * f))))) i j f hi hj hij (fun q _ => by rw [he]; simp; grind) (fun r _ hr q _ => by rw [he, if_neg hr])).then_ (re_swap hs1 hi hj hij) (by grind)
  · refine HB.swap (fun r q => ?_) hs1 hi hj
    rw [he]
    split
    · have h1 := hB i q; have h2 := hB j q; have h3 := hq_mul (ent m j q) f; have h4 := hq_add (ent m i q) (ent m j q * f); have := hB.pos; omega
    · have := hB r q; omega
/-- A row multiplied. -/
def mulRow (m : Mat) (i : Nat) (f : Rat) : Mat := m.set i ((m.getD i []).map (· * f))
theorem mulRow_ok {n c B : Nat} {m : Mat} {i : Nat} {f : Rat} (hs : Shp n c m) (hi : i < n) (hf0 : f ≠ 0) (hB : HB B m) (hf : hq f ≤ B) : Shp n c (mulRow m i f) ∧ RE n c (ent m) (ent (mulRow m i f)) f ∧ HB (4 * B) (mulRow m i f) := by
  have he : ∀ r q, ent (mulRow m i f) r q = if r = i then ent m i q * f else ent m r q := fun r q => by
    unfold mulRow; rw [ent_set (by rw [hs.1]; exact hi), getD_map_mul]; rfl
  refine ⟨hs.set i (by rw [List.length_map]; exact hs.row hi), .scale i f hi hf0 (fun q _ => by rw [he]; simp; grind) (fun r _ hr q _ => by rw [he, if_neg hr]), fun r q => ?_⟩
  rw [he]
  split
  · have h1 := hB i q; have h3 := hq_mul (ent m i q) f; have := hB.pos; omega
  · have := hB r q; omega
end Go.Lin

namespace Go.Proofs.YtjbhcniiioepgaaGreat
open Go.RowKit Go.Rep Go.Lim Go.Lin

set_option maxRecDepth 100000 in
set_option maxHeartbeats 1600000 in
theorem dot_any (X : Nat → Bool) (w : World) (u v : Value) (l m : List Rat) (hX : HX X w) (hu : RV (mk X w) u l) (hv : RV (mk X w) v m) (hn : l.length ≤ 1000000) (hml : m.length = l.length) (hb1 : ∀ k, k ≤ l.length → hq (dotN l m k) ≤ 68719476736) (hb2 : ∀ k, k < l.length → hq (l.getD k 0 * m.getD k 0) ≤ 68719476736) :
    Calls Tryz.prog 107 #[u, v] w (ROut X w QC (dotL l m)) := by
  obtain ⟨ao, ca, rfl, hca, hsa⟩ := hu
  obtain ⟨bo, cb, rfl, hcb, hsb⟩ := hv
  have hha := hsa.hd
  have hhb := hsb.hd
  obtain ⟨W, hW, hE, b0, b1, hz⟩ := boxes2 w #[.bool false, .slice none 0 0, .slice none 0 0] #[.bool false, .slice none 0 0, .slice none 0 0] 31 31
  have hXW : HX (hidB X w.heap.size 2) W := hX.boxes hz
  have h0 : QC (mk (hidB X w.heap.size 2) W) (.agg #[.bool false, .slice none 0 0, .slice none 0 0]) (dotN l m 0) := QC.zero _
  obtain ⟨n, hln⟩ : ∃ n, l.length = n := ⟨_, rfl⟩
  rw [hln] at hn hml hb1 hb2 hca hha ⊢
  rw [hml] at hcb hhb ⊢
  have hln' := hid hln
  have hml' := hid hml
  have hb1' := hid hb1
  have hb2' := hid hb2
  have hdot : Hid (dotN l m n = dotL l m) := hid (by unfold dotL; rw [hln])
  clear hln hml hb1 hb2
  go_enter Tryz.func107, Tryz.ntmps107
  go_wp2_with fail
  obtain ⟨b, hb⟩ : ∃ b, w.heap.size = b := ⟨_, rfl⟩
  have hle : Hid (∀ wr, Ext w wr → Le (mk X w) (mk (hidB X b 2) wr)) := hid fun wr h => by rw [← hb]; exact le_boxes h
  have hbw : w.heap.size ≤ b := by omega
  rw [hb] at b0 b1 hXW h0 ⊢
  clear hW
  go_loopw [10] (fun k wr => ∃ (i : Nat) (s : Bool) (a : Option Addr) (n' c' : Nat) (d : Option Addr) (kk e : Nat), k = .int .i64 i ∧ i ≤ n ∧ Bx wr b #[.bool false, .slice none 0 0, .slice none 0 0] 31 ∧ Bx wr (b + 1) #[.bool s, .slice a n' c', .slice d kk e] 31 ∧ QC (mk (hidB X b 2) wr) (.agg #[.bool s, .slice a n' c', .slice d kk e]) (dotN l m i) ∧ HX (hidB X b 2) wr ∧ Ext w wr) (fun k _ => n - (intOf k).toNat)
  case atStart => exact ⟨0, _, _, _, _, _, _, _, rfl, Nat.zero_le _, b0, b1, h0, hXW, hE⟩
  case round =>
    obtain ⟨i, s, a, n', c', d, kk, e, rfl, hi, b0, b1, hq, hXr, hEr⟩ := hrel
    by_cases hlt : i < n
    · have hil : i < l.length := by rw [hln'.out]; exact hlt
      have him : i < m.length := by rw [hml'.out]; exact hlt
      have hsr := hsa.mono QV.mono (hle.out wr hEr)
      have hsr2 := hsb.mono QV.mono (hle.out wr hEr)
      obtain ⟨g2, o2, s2, p2, n2, q2, d2, k2, e2, hg2, hX2, hc2, hq2⟩ := hsr2.rat QV.shaped i him
      have gl : Hid (l.getD i 0 = l[i]) := hid (by simp [List.getD_eq_getElem?_getD, hil])
      have gm : Hid (m.getD i 0 = m[i]) := hid (by simp [List.getD_eq_getElem?_getD, him])
      have hst : Hid (dotN l m i + l[i] * m[i] = dotN l m (i + 1)) := hid (by rw [← gl.out, ← gm.out]; rfl)
      have hbo := hid (hb1'.out i hi)
      have hbp := hid (hb2'.out i hlt)
      rw [gl.out, gm.out] at hbp
      obtain ⟨x, hx⟩ : ∃ x, l[i] = x := ⟨_, rfl⟩
      obtain ⟨y, hy⟩ : ∃ y, m[i] = y := ⟨_, rfl⟩
      rw [hx, hy] at hst hbp
      rw [hy] at hq2
      have hx' := hid hx
      have i2 : ∀ W, (Instr.indexAt 33 (.slice bo n cb) (.int .i64 (i : Int))).run Tryz.prog W = .ok (.pointer (some ⟨g2, o2, none⟩)) W := by rw [← hg2]; exact run_indexAt_adr slRat bo n cb .i64 i hhb (by omega)
      have bx := Bx.new wr #[.bool false, .slice none 0 0, .slice none 0 0] 31
      obtain ⟨D, hD⟩ : ∃ D, dotN l m i = D := ⟨_, rfl⟩
      obtain ⟨D2, hD2⟩ : ∃ D2, dotN l m (i + 1) = D2 := ⟨_, rfl⟩
      rw [hD] at hq hst hbo
      rw [hD2] at hst
      have hD2' := hid hD2
      clear hx hy hg2 hD hD2
      go_wp2_with (first | (with_reducible refine up_ixn slRat (by omega) (by assumption) ?_) | ((with_reducible show wpList _ _ _ (⟨_, .load 31 _, _, _, _, _⟩ :: _) _ _); refine st_loadElem stRat i hsr hil rfl (by simp) QV.agg ?_; intro u5 hu5; rw [hx'.out] at hu5; obtain ⟨s5, a5, n5, c5, d5, k5, e5, rfl⟩ := hu5.shape) | ((with_reducible show wpList _ _ _ (⟨_, .store _ _ _, _, _, _, _⟩ :: _) _ _); refine st_storeBox stRat rfl rfl bx rfl rfl (one3 _ _ _ _ _ _ _) ?_; intro w5 r1 r2))
      have hE5 : Ext wr w5 := ExtX.box ((ExtX.refl wr).alloc _) r2 (Nat.le_refl _)
      have hEd : Ext w5 w5.drew := (ExtX.refl w5).drew
      have hE5d := hE5.trans hEd
      have b05 := b0.ext0 hE5d
      have b15 := b1.ext0 hE5d
      have r5 := r1.ext0 hEd
      obtain ⟨bw, hbw⟩ : ∃ bw, wr.heap.size = bw := ⟨_, rfl⟩
      rw [hbw] at r5
      have k00 := b15.cell 0 rfl
      have k01 := b15.cell 1 rfl
      have k02 := b15.cell 2 rfl
      have k10 := r5.cell 0 rfl
      have k11 := r5.cell 1 rfl
      have k12 := r5.cell 2 rfl
      obtain ⟨k20, k21, k22⟩ := hc2.out noY w5.drew hE5d rfl
      have hXd := hXr.ext hE5d
      have hx5 : QV (mk (hidB X b 2) w5.drew) (.agg #[.bool s5, .slice a5 n5 c5, .slice d5 k5 e5]) x := mkx QV.mono hu5 hE5d
      have hy5 : QV (mk (hidB X b 2) w5.drew) (.agg #[.bool s2, .slice p2 n2 q2, .slice d2 k2 e2]) y := mkx QV.mono hq2 hE5d
      have hq5 : QV (mk (hidB X b 2) w5.drew) (.agg #[.bool s, .slice a n' c', .slice d kk e]) D := (mkx QC.mono hq hE5d).qv hbo.out
      clear bx r1 hc2
      rw [hbw]
      go_wp2_with fail
      go_region_with (first | (go_at_call 98; (with_reducible refine (qmul (hidB X b 2) w5.drew _ _ _ _ hXd hx5 hy5).mono ?_); rintro ee w6 ⟨t1, u6, rfl, hu6⟩; obtain ⟨s6, a6, n6, c6, d6, k6, e6, rfl⟩ := hu6.shape; have hX6 := hXd.ext t1; have hq6 := mkx QV.mono hq5 t1; have hm6 := hu6.qv hbp.out; have b16 := b15.ext0 t1; have m0 := b16.cell 0 rfl; have m1 := b16.cell 1 rfl; have m2 := b16.cell 2 rfl) | (go_at_call 110; (with_reducible refine (qadd (hidB X b 2) w6 _ _ _ _ hX6 hq6 hm6).mono ?_); rintro ee w7 ⟨t7, u7, rfl, hu7⟩; obtain ⟨s7, a7, n7, c7, d7, k7, e7, rfl⟩ := hu7.shape; rw [hst.out] at hu7; have b17 := b16.ext0 t7; have g0 := b17.cell 0 rfl; have g1 := b17.cell 1 rfl; have g2' := b17.cell 2 rfl; have f0 := b17.frozen 0; have f1 := b17.frozen 1; have f2 := b17.frozen 2))
      all_goals
        obtain ⟨z1, z2⟩ := b17.set3 (.bool s7) (.slice a7 n7 c7) (.slice d7 k7 e7)
        have h8 := QC.mono _ _ _ _ (le_store (lo := b) (nb := 2) z2 (by omega) (by omega)) hu7
        have b08 := ((b05.ext0 t1).ext0 t7).ext z2 (ob_other (by omega))
        have hE8 : Ext w _ := ExtX.box (hEr.trans (hE5d.trans (t1.trans t7))) z2 (by omega)
        have hX8 := (hX6.ext t7).ext z2
        rw [← hD2'.out] at h8
        clear k00 k01 k02 k10 k11 k12 k20 k21 k22 m0 m1 m2 g0 g1 g2' f0 f1 f2 i2
        go_wp2_with fail
        go_roundw
        case rel => exact ⟨i + 1, _, _, _, _, _, _, _, by go_num, by omega, b08, z1, h8, hX8, hE8⟩
        case measure => simp [intOf]; omega
    · have hin : i = n := by omega
      subst hin
      rw [hdot.out] at hq
      have k00 := b1.cell 0 rfl
      have k01 := b1.cell 1 rfl
      have k02 := b1.cell 2 rfl
      go_wp2_with ((with_reducible show wpList _ _ _ (⟨_, .store _ _ _, _, _, _, _⟩ :: _) _ _); refine st_storeBox stRat rfl rfl b0 rfl rfl (one3 _ _ _ _ _ _ _) ?_; intro w7 r1 r2)
      have h7 := QC.mono _ _ _ _ le_unbox (QC.mono _ _ _ _ (le_store r2 (by omega) (by omega)) hq)
      exact bodyPost_ret (results_box rfl rfl stRat r1 rfl) rfl ⟨ExtX.box hEr r2 (by omega), _, rfl, h7⟩
end Go.Proofs.YtjbhcniiioepgaaGreat

namespace Go.Lin
open Go.Lim
theorem shpc {n c : Nat} {m : Mat} (h : Shp n c m) (hn : 1 ≤ n) : colsL m = c := by
  rw [colsL_pos (by rw [h.1]; exact hn)]; exact h.2 _ (List.getElem_mem _)
theorem shpf {n c : Nat} {m : Mat} (h : Shp n c m) (hn : n ≤ 96) (hc : 1 ≤ c) (hc2 : c ≤ 96) : formedB m = true := by
  refine formedB_true.2 ⟨by rw [h.1]; exact hn, fun i hi => ?_⟩
  have h1 := h.2 _ (List.getElem_mem hi)
  refine ⟨by omega, by omega, ?_⟩
  rw [h1, shpc h (by have := h.1; omega)]
theorem bm_hb {B : Nat} {m : Mat} (h : Go.Rep.BM B m) (hB : 1 ≤ B) : HB B m := fun i j => by
  unfold ent
  by_cases hi : i < m.length
  · have e : m.getD i [] = m[i] := by simp [List.getD_eq_getElem?_getD, hi]
    rw [e]
    by_cases hj : j < (m[i]).length
    · have := h m[i] (List.getElem_mem _) (m[i])[j] (List.getElem_mem _)
      simpa [List.getD_eq_getElem?_getD, hj] using this
    · rw [List.getD_eq_getElem?_getD, List.getElem?_eq_none (by omega)]
      show hq 0 ≤ B
      rw [hq_zero]; exact hB
  · rw [List.getD_eq_getElem?_getD (l := m), List.getElem?_eq_none (by omega)]
    show hq 0 ≤ B
    rw [hq_zero]; exact hB
theorem hb_bm {B : Nat} {m : Mat} (h : HB B m) : Go.Rep.BM B m := fun r hr q hq => by
  obtain ⟨i, hi, rfl⟩ := List.getElem_of_mem hr
  obtain ⟨j, hj, rfl⟩ := List.getElem_of_mem hq
  have := h i j
  simpa [ent, List.getD_eq_getElem?_getD, hi, hj] using this
theorem appL_getElem {m : Mat} {v : List Rat} {i : Nat} (hi : i < m.length) (h : i < (appL m v).length) : (appL m v)[i] = dotL m[i] v := by simp [appL]
theorem mulL_getElem {a b : Mat} {n c i : Nat} (hi : i < a.length) (h : i < (mulL a b n c).length) : (mulL a b n c)[i] = appL (trL b n c) a[i] := by simp [mulL]
theorem mulL_len (a b : Mat) (n c : Nat) : (mulL a b n c).length = a.length := by simp [mulL]
theorem br_getD {B : Nat} {x : List Rat} (hx : Go.Rep.BR B x) (hB : 1 ≤ B) (q : Nat) : hq (x.getD q 0) ≤ B := by
  by_cases h : q < x.length
  · rw [List.getD_eq_getElem?_getD, List.getElem?_eq_getElem h]; exact hx _ (List.getElem_mem h)
  · rw [List.getD_eq_getElem?_getD, List.getElem?_eq_none (by omega)]
    show hq 0 ≤ B
    rw [hq_zero]; exact hB
/-- Bounds that a dot product wants. -/
theorem dot_bounds {B : Nat} {l m : List Rat} (hl : Go.Rep.BR B l) (hm : Go.Rep.BR B m) (hB : 1 ≤ B) (hn : l.length ≤ 96) (hBB : 200 * B ≤ 68000000000) : (∀ k, k ≤ l.length → hq (dotN l m k) ≤ 68719476736) ∧ ∀ k, k < l.length → hq (l.getD k 0 * m.getD k 0) ≤ 68719476736 := by
  refine ⟨fun k hk => ?_, fun k hk => ?_⟩
  · have h1 := dotN_hq hl hm hB k
    have h2 : k * (2 * B + 1) ≤ 96 * (2 * B + 1) := Nat.mul_le_mul_right _ (by omega)
    omega
  · have h1 := hq_mul (l.getD k 0) (m.getD k 0)
    have h2 := br_getD hl hB k
    have h3 := br_getD hm hB k
    omega
end Go.Lin
namespace Go.Proofs.YtjbhcniiioepgaaGreat
open Go.RowKit Go.Rep Go.Lim Go.Lin

/-- A row and no error. -/
def V2Out (X : Nat → Bool) (w : World) (l : List Rat) (e : Ending) (w' : World) : Prop := Ext w w' ∧ ∃ u, e = .returned (.tuple #[u, .int .i64 0]) ∧ RC (mk X w') u l

set_option maxRecDepth 100000 in
theorem apply_ok (X : Nat → Bool) (w : World) (u v : Value) (m : List (List Rat)) (x : List Rat) (B : Nat) (hX : HX X w) (hu : MV (mk X w) u m) (hv : RV (mk X w) v x) (hf : formedB m = true) (hc : x.length = colsL m) (hB : BM B m) (hB2 : BR B x) (hB1 : 1 ≤ B) (hBB : 200 * B ≤ 68000000000) : Calls Tryz.prog 48 #[u, v] w (V2Out X w (appL m x)) := by
  obtain ⟨hsh, h96, hc96, _, _⟩ := formedB_shp hf
  have hfo := formed_any X w u m hu (by omega)
  rw [hf] at hfo
  have hcol := columns_any X w u m hu
  obtain ⟨ua, uca, rfl, huca, hua⟩ := hu
  obtain ⟨va, vca, rfl, hvca, hva⟩ := hv
  have hhu := hua.hd
  obtain ⟨c, hce⟩ : ∃ c, colsL m = c := ⟨_, rfl⟩
  rw [hce] at hcol hc hc96 hsh
  have hne : ((x.length : Int) != (c : Int)) = false := bneF (by omega)
  have hsh' := hid hsh
  have hcc := hid hc
  have hB' := hid hB
  have hB2' := hid hB2
  obtain ⟨n, hn⟩ : ∃ n, m.length = n := ⟨_, rfl⟩
  rw [hn] at hfo hcol huca hhu h96 ⊢
  have hnn := hid hn
  have hal : Hid ((appL m x).length = n) := hid (by rw [appL_len]; exact hn)
  clear hf hsh hn hc hce hB hB2
  go_enter Tryz.func48, Tryz.ntmps48
  go_wp2_with fail
  refine hfo.mono ?_
  rintro e w1 ⟨rfl, rfl⟩
  go_wp2_with fail
  refine hcol.mono ?_
  rintro e w2 ⟨rfl, rfl⟩
  go_wp2_with fail
  go_loopw [6, 21] (fun o k wr => ∃ (i : Nat) (oo : Option Addr) (co : Nat), k = .int .i64 i ∧ o = .slice oo i co ∧ i ≤ n ∧ OL QC 3 X w2.heap.size 31 wr oo co ((appL m x).take i) ∧ Ext w2 wr) (fun _ k _ => n - (intOf k).toNat)
  case atStart => exact ⟨0, none, 0, rfl, rfl, Nat.zero_le _, OL.nil _ _ _ _ _ _, ExtX.refl _⟩
  case round =>
    obtain ⟨i, oo, co, rfl, rfl, hi, hO, hE⟩ := hrel
    have hXr : HX X wr := hX.ext hE
    have hXu : HX (un X oo) wr := hO.unX hXr
    have hbase := hE.size
    by_cases hlt : i < n
    · have him : i < m.length := by rw [hnn.out]; exact hlt
      have hiA : i < (appL m x).length := by rw [hal.out]; exact hlt
      have hsr : Sl RV 1 (mk (un X oo) wr) ua m := hua.old RV.mono hE (fun j hj => hO.ob_lt hj)
      have hvr : RV (mk (un X oo) wr) (.slice va x.length vca) x := old_un RV.mono ⟨va, vca, rfl, hvca, hva⟩ hE (fun j hj => hO.ob_lt hj)
      have htk := hid (take_snoc (appL m x) i hiA)
      have hln := hid (len_take (l := appL m x) (i := i) (by omega))
      obtain ⟨a1, c1, hX1, hc1, hcl1, hq1⟩ := hsr.row i him
      have k00 := hc1.out noY wr (ExtX.refl _) rfl
      have hrl := hid (hsh'.out.2 m[i] (List.getElem_mem _))
      have hge := hid (appL_getElem (v := x) him hiA)
      have hdb := dot_bounds (hB'.out m[i] (List.getElem_mem _)) hB2'.out hB1 (by rw [hrl.out]; exact hc96) hBB
      have hdot := dot_any (un X oo) wr _ _ m[i] x hXu ⟨a1, c1, rfl, hcl1, hq1⟩ hvr (by rw [hrl.out]; omega) (by rw [hrl.out, hcc.out]) hdb.1 hdb.2
      rw [← hge.out] at hdot
      obtain ⟨v, hv⟩ : ∃ v, (appL m x)[i] = v := ⟨_, rfl⟩
      rw [hv] at hdot htk
      clear hv hc1 hdb
      go_wp2_with (with_reducible refine up_ix1 slRats (by omega) (by assumption) ?_)
      refine hdot.mono ?_
      rintro e w6 ⟨hE6, u6, rfl, hu6⟩
      obtain ⟨s6, a6, n6, c6, d6, k6, e6, rfl⟩ := hu6.shape
      have hO6 := hO.ext0 QC.elem hE6
      have hb6 := hE6.size
      clear k00
      go_wp2_with (at_builtin; refine st_append1n (l := (appL m x).take i) slRat rfl QC.elem (by omega) (hXr.ext hE6) i hln.out rfl rfl hO6 (.agg #[.bool s6, .slice a6 n6 c6, .slice d6 k6 e6]) v rfl hu6 (by omega) (by omega) ?_; intro oo2 co2 w7 hO7 hE7 hor)
      have hE8 := (hE.trans hE6).own hO6 (Nat.le_refl _) hE7
      rw [htk.out] at hO7
      go_roundw
      case rel => exact ⟨i + 1, oo2, co2, by go_num, by go_num, by omega, hO7, hE8⟩
      case measure => simp [intOf]; omega
    · have hil : i = n := by omega
      subst hil
      rw [List.take_of_length_le (by rw [hal.out]; exact Nat.le_refl _)] at hO
      have hc := hO.lenCap
      have hs := hO.sl QC.elem
      go_wp2_with fail
      go_ret2
      exact ⟨hE, _, rfl, oo, co, by rw [hal.out]; rfl, hc, hs⟩

set_option maxRecDepth 100000 in
theorem mul_ok (X : Nat → Bool) (w : World) (u v : Value) (a b : List (List Rat)) (k n c B : Nat) (hX : HX X w) (hu : MV (mk X w) u a) (hv : MV (mk X w) v b) (hfa : formedB a = true) (hfb : formedB b = true) (ha : a.length = k) (hb : b.length = n) (hca : colsL a = n) (hcb : colsL b = c) (hB : BM B a) (hB2 : BM B b) (hB1 : 1 ≤ B) (hBB : 200 * B ≤ 68000000000) : Calls Tryz.prog 46 #[u, v] w (M2Out X w (mulL a b n c)) := by
  obtain ⟨hsa, ha96, hna96, hposa, hza⟩ := formedB_shp hfa
  obtain ⟨hsb, hb96, hcb96, hposb, hzb⟩ := formedB_shp hfb
  rw [ha, hca] at hsa
  rw [hb, hcb] at hsb
  rw [ha] at ha96 hposa hza
  rw [hb] at hb96 hposb hzb
  rw [hca] at hna96 hposa hza
  rw [hcb] at hcb96 hposb hzb
  have htr := transpose_ok X w v b n c hX hv hfb hb hcb
  have htf : Hid (0 < k → formedB (trL b n c) = true ∧ colsL (trL b n c) = n) := hid fun hk => by
    have hn1 := hposa hk
    by_cases hc0 : 0 < c
    · exact ⟨shpf (trL_shp b n c) hcb96 hn1 hna96, shpc (trL_shp b n c) hc0⟩
    · have := hposb (by omega); omega
  have htb := hid (hb_bm (trL_hb (n := n) (c := c) (bm_hb hB2 hB1)))
  have hfo := fun w' (h : Ext w w') => formed_any X w' u a (mkx MV.mono hu h) (by omega)
  have hcol := fun w' (h : Ext w w') => columns_any X w' u a (mkx MV.mono hu h)
  rw [hfa] at hfo
  rw [hca] at hcol
  have hfo' := hid hfo
  have hcol' := hid hcol
  obtain ⟨ua, uca, rfl, huca, hua⟩ := hu
  obtain ⟨va, vca, rfl, hvca, hva⟩ := hv
  have hhu := hua.hd
  have hml : Hid ((mulL a b n c).length = k) := hid (by rw [mulL_len]; exact ha)
  have hsa' := hid hsa
  have hB' := hid hB
  have haa := hid ha
  rw [ha] at huca hhu hfo' hcol' ⊢
  rw [hb] at htr hvca ⊢
  clear hfo hcol hfa hfb ha hb hca hcb hsa hsb hza hzb hposa hposb hva hB hB2
  go_enter Tryz.func46, Tryz.ntmps46
  go_wp2_with fail
  refine htr.mono ?_
  rintro e w1 ⟨hE1, ut, rfl, hut⟩
  go_wp2_with fail
  refine (hfo'.out w1 hE1).mono ?_
  rintro e w2 ⟨rfl, rfl⟩
  go_wp2_with fail
  refine (hcol'.out w2 hE1).mono ?_
  rintro e w3 ⟨rfl, rfl⟩
  have hX3 := hX.ext hE1
  have hua3 := hua.mono RV.mono (mk_ext hE1)
  go_wp2_with fail
  go_loopw [8, 34] (fun o kk wr => ∃ (i : Nat) (oo : Option Addr) (co : Nat), kk = .int .i64 i ∧ o = .slice oo i co ∧ i ≤ k ∧ OL RC 1 X w3.heap.size 33 wr oo co ((mulL a b n c).take i) ∧ Ext w3 wr) (fun _ kk _ => k - (intOf kk).toNat)
  case atStart => exact ⟨0, none, 0, rfl, rfl, Nat.zero_le _, OL.nil _ _ _ _ _ _, ExtX.refl _⟩
  case round =>
    obtain ⟨i, oo, co, rfl, rfl, hi, hO, hE⟩ := hrel
    have hXr : HX X wr := hX3.ext hE
    have hXu : HX (un X oo) wr := hO.unX hXr
    have hbase := hE.size
    by_cases hlt : i < k
    · have him : i < a.length := by rw [haa.out]; exact hlt
      have hiM : i < (mulL a b n c).length := by rw [hml.out]; exact hlt
      have hsr : Sl RV 1 (mk (un X oo) wr) ua a := hua3.old RV.mono hE (fun j hj => hO.ob_lt hj)
      have htr : MC (mk (un X oo) wr) ut (trL b n c) := old_un MC.mono hut hE (fun j hj => hO.ob_lt hj)
      have htk := hid (take_snoc (mulL a b n c) i hiM)
      have hln := hid (len_take (l := mulL a b n c) (i := i) (by omega))
      obtain ⟨a1, c1, hX1, hc1, hcl1, hq1⟩ := hsr.row i him
      have k00 := hc1.out noY wr (ExtX.refl _) rfl
      have hrl := hid (hsa'.out.2 a[i] (List.getElem_mem _))
      have hge := hid (mulL_getElem (b := b) (n := n) (c := c) him hiM)
      obtain ⟨hf1, hf2⟩ := htf.out (by omega)
      have hap := apply_ok (un X oo) wr ut _ (trL b n c) a[i] B hXu (htr.mv (fun r hr q hq => Nat.le_trans (htb.out r hr q hq) (by omega))) ⟨a1, c1, rfl, hcl1, hq1⟩ hf1 (by rw [hf2]; exact hrl.out) htb.out (hB'.out a[i] (List.getElem_mem _)) hB1 hBB
      rw [← hge.out] at hap
      obtain ⟨v, hv⟩ : ∃ v, (mulL a b n c)[i] = v := ⟨_, rfl⟩
      rw [hv] at hap htk
      clear hv hc1 hf1 hf2
      go_wp2_with (with_reducible refine up_ix1 slRats (by omega) (by assumption) ?_)
      refine hap.mono ?_
      rintro e w6 ⟨hE6, u6, rfl, hu6⟩
      obtain ⟨a6, c6, rfl, hcl6, hs6⟩ := hu6
      have hO6 := hO.ext0 RC.elem hE6
      have hb6 := hE6.size
      clear k00
      go_wp2_with (at_builtin; refine st_append1n (l := (mulL a b n c).take i) slRats rfl RC.elem (by omega) (hXr.ext hE6) i hln.out rfl rfl hO6 (.slice a6 v.length c6) v rfl ⟨a6, c6, rfl, hcl6, hs6⟩ (by omega) (by omega) ?_; intro oo2 co2 w7 hO7 hE7 hor)
      have hE8 := (hE.trans hE6).own hO6 (Nat.le_refl _) hE7
      rw [htk.out] at hO7
      go_roundw
      case rel => exact ⟨i + 1, oo2, co2, by go_num, by go_num, by omega, hO7, hE8⟩
      case measure => simp [intOf]; omega
    · have hil : i = k := by omega
      subst hil
      rw [List.take_of_length_le (by rw [hml.out]; exact Nat.le_refl _)] at hO
      have hc := hO.lenCap
      have hs := hO.sl RC.elem
      go_wp2_with fail
      go_ret2
      exact ⟨hE1.trans hE, _, rfl, oo, co, by rw [hml.out]; rfl, hc, hs⟩
end Go.Proofs.YtjbhcniiioepgaaGreat
